/-
  The plain laws of shares: the first ones have the content; sums; any of them are enough. vote.fit walked. slices.DeleteFunc at the call's own ints, with whatever closure that asks. slices.Delete of one share out of an own row, slices.Clone of a slice of shares. What vote.Most's inner function holds in its boxes; what a set of shares makes can be split. The walk of share.Join. vote.Most's inner function, which calls itself, walked. share.Join where the plan is wrong, where there are too many, or too few; Join whole.
-/
import Derived.Test.YthgmphbkkojaoaaGreatQCopies
set_option maxHeartbeats 8000000
namespace Go.Proofs.YthgmphbkkojaoaaGreat
set_option linter.unusedSectionVars false
variable [Zn]
theorem zJi{n j:Nat}(h:j<n):(zA5 n)[j]?=some (j:Int):=by simp[zA5,h]
theorem zEr(data:List Int)(r:Nat){n j:Nat}(h:j<n):(zFF n data r)[j]?=some (data.getD (r*n+j) 0):=by simp[zFF,h]
theorem zHE(n:Nat)(data:List Int)(k r:Nat):0≤zCL n data k r∧zCL n data k r<31:=zEk _ _ _
theorem zBX(n:Nat)(data:List Int)(r:Nat){o k:Nat}(h:k<o):(zAV n data o r)[k]?=some (zAY n data r k):=by simp[zAV,h]
theorem zBK(n:Nat)(data:List Int)(o r:Nat):(zAV n data o r).length=o:=by simp[zAV]
theorem zF1(n:Nat)(data:List Int)(r k:Nat):(zAY n data r k).2.length=r:=by simp[zAY]
theorem zEl(n:Nat)(data:List Int){r i:Nat}(k:Nat)(h:i<r):(zAY n data r k).2[i]?=some (zCL n data k i):=by simp[zAY,h]
theorem zGQ{n o s:Int}:∀{r seen:List Sh},(∀t∈r,zDy n o s t.1 t.2=0)→((seen++r).map (·.1)).Pairwise (· ≠ ·)→zAw n o s seen r=0
 | [],_,_,_=>rfl
 | t::r,seen,h1,h2=>by
  unfold zAw
  rw[if_neg (by simpa using h1 t (by simp)),if_neg]
  ·exact zGQ (fun u hu=>h1 u (by simp[hu])) (by simpa using h2)
  ·intro hh
   obtain ⟨u,hu,he⟩:=(zLo _ _).1 hh
   rw[List.map_append,List.pairwise_append] at h2
   exact h2.2.2 u.1 (List.mem_map.2 ⟨u,hu,rfl⟩) t.1 (by simp) he
theorem zM1{l:List Int}(h:∀z∈l,0≤z∧z<31):zEn l=0:=(zFj l).2 h
theorem zJO{n o s:Nat}{t:Sh}(hp:zAx n o s=0)(h0:0≤t.1)(h1:t.1<o)(hl:t.2.length=zAM n s)(hv:∀z∈t.2,0≤z∧z<31):zDy n o s t.1 t.2=0:=by
 unfold zDy
 rw[if_neg (by simpa using hp),if_neg (by omega),if_neg (by rw[zEh hp,hl];simp),zM1 hv]
structure zDE (n:Nat) (data:List Int) (o r:Nat) (ls:List Sh):Prop where
 of:∀t∈ls,∃k:Nat,k<o∧t=zAY n data r k
 once:(ls.map (·.1)).Nodup
theorem zDE.one{n o s:Nat}{data:List Int}{ls:List Sh}(hp:zAx n o s=0)(h:zDE n data o (zAM n s) ls):∀t∈ls,zDy n o s t.1 t.2=0:=by
 intro t ht
 obtain ⟨k,hk,rfl⟩:=h.of t ht
 refine zJO hp (by simp[zAY]) (by simp[zAY];omega) (zF1 _ _ _ _) ?_
 intro z hz
 obtain ⟨i,hi,rfl⟩:=List.getElem_of_mem hz
 simp[zAY]
 exact zHE _ _ _ _
theorem zDE.len{n o r:Nat}{data:List Int}{ls:List Sh}(h:zDE n data o r ls):ls.length≤o:=by
 have h1:(ls.map (·.1)).length≤((List.range o).map fun (k:Nat)=>(k:Int)).length:=by
  refine List.Nodup.length_le_of_subset h.once ?_
  intro x hx
  obtain ⟨t,ht,rfl⟩:=List.mem_map.1 hx
  obtain ⟨k,hk,rfl⟩:=h.of t ht
  exact List.mem_map.2 ⟨k,List.mem_range.2 hk,rfl⟩
 simpa using h1
theorem zDE.checkL{n o s:Nat}{data:List Int}{ls:List Sh}(hp:zAx n o s=0)(h:zDE n data o (zAM n s) ls):zAw n o s [] ls=0:=
 zGQ (h.one hp) (by simpa[List.Nodup] using h.once)
theorem zDE.checks{n o s:Nat}{data:List Int}{ls:List Sh}(hp:zAx n o s=0)(h:zDE n data o (zAM n s) ls)(hn:n≤ls.length):zAb n o s ls=0:=by
 obtain ⟨p1,p2,p3,p4,p5,p6⟩:=zAg hp
 have hl:=h.len
 unfold zAb
 rw[if_neg (by simpa using hp),if_neg (by omega),if_neg (by simpa using h.checkL hp),if_neg (by omega)]
theorem zDE.right{n o s:Nat}{data:List Int}{ls:List Sh}(hp:zAx n o s=0)(h:zDE n data o (zAM n s) ls)(hn:n≤ls.length):zBe n o s ls:=by
 obtain ⟨p1,p2,p3,p4,p5,p6⟩:=zAg hp
 have hl:=h.len
 exact zLf hp hn (by omega) (h.checkL hp)
theorem zUQ{n:Nat}{ls:List Sh}{m:Nat}{p:Int}(h:(xsL n ls)[m]?=some p)(i:Nat):∃t,t∈ls∧ls[m]?=some t∧p=t.1∧(ysL n ls i)[m]?=some (t.2.getD i 0):=by
 unfold xsL at h
 rw[List.getElem?_map,Option.map_eq_some_iff] at h
 obtain ⟨t,ht,rfl⟩:=h
 refine ⟨t,List.mem_of_mem_take (List.mem_of_getElem? ht),?_,rfl,?_⟩
 ·rw[List.getElem?_take] at ht
  split at ht
  ·exact ht
  ·cases ht
 ·unfold ysL
  rw[List.getElem?_map,ht]
  rfl
theorem zDE.curve{n o s:Nat}{data:List Int}{ls:List Sh}(hp:zAx n o s=0)(h:zDE n data o (zAM n s) ls)(hn:n≤ls.length){i:Nat}(hi:i<zAM n s)(p:Int) :
  atV (xsL n ls) (ysL n ls i) p=atV (zA5 n) (zFF n data i) p:=by
 obtain ⟨p1,p2,p3,p4,p5,p6⟩:=zAg hp
 have hR:=(h.right hp hn).pts i
 have hxl:(xsL n ls).length=n:=by simp[xsL];omega
 refine (zES hR (f:=atV (zA5 n) (zFF n data i)) ?_ (fun p=>zEk _ _ _) ?_ p).symm
 ·have:=zGM (x:=zA5 n) (y:=zFF n data i) (by rw[zB2];omega)
  rw[hxl]
  rwa [zB2] at this
 ·intro m q v hq hv
  obtain ⟨t,ht,_,rfl,hy⟩:=zUQ hq i
  rw[hv] at hy
  cases hy
  obtain ⟨k,hk,rfl⟩:=h.of t ht
  rw[List.getD_eq_getElem?_getD,zEl _ _ _ hi]
  rfl
theorem zNN(n:Nat)(ls:List Sh){i j:Nat}(hj:j<n):∀r,i<r→(zCB n ls r)[i*n+j]?=some (atV (xsL n ls) (ysL n ls i) (j:Int))
 | 0,h=>by omega
 | r+1,h=>by
  rw[zFu]
  by_cases hi:i<r
  ·have h1:i*n+j<r*n:=by
    have:(i+1)*n≤r*n:=Nat.mul_le_mul_right _ hi
    rw[Nat.add_mul,Nat.one_mul] at this
    omega
   rw[List.getElem?_append_left (by rw[zDH];exact h1)]
   exact zNN n ls hj r hi
  ·obtain rfl:i=r:=by omega
   rw[List.getElem?_append_right (by rw[zDH];omega),zDH,show i*n+j - i*n=j by omega]
   unfold zLq
   rw[List.getElem?_map,List.getElem?_range hj]
   rfl
open Go.RowKit
set_option maxRecDepth 100000 in
theorem zUa(n o s:Nat)(vd vl:Value)(data:List Int)(ls:List Sh)(W:World)(hd:zAG W vd data)(hl:zAN W vl ls)(hE:zAe n o s data=0)(hn:∀t∈ls,0≤t.1∧t.1<o)(hlen:ls.length≤8) :
  Calls Tryz.prog 118 #[.agg #[.int .i64 n,.int .i64 o,.int .i64 s],vd,vl] W fun e w'=>(∃v',e=.returned v'∧zAJ w' 3 W.heap.size v' (zEb (ofD n (zAM n s) data) 0 ls))∧Below W.heap.size W w':=by
 have HD:=Zh hd
 have HL:=Zh hl
 have HE:=Zh hE
 have HN:=Zh hn
 have HSL:=Zh (zBw hE)
 obtain ⟨a,c,rfl,hcc,⟨hcm,hcm',_⟩,_⟩:=hl.opened
 clear hd hl hE hn
 have S0:=(zAD.refl W).alloc (.cells #[.int .i64 n,.int .i64 o,.int .i64 s] 49)
 have c0:(W.alloc (.cells #[.int .i64 n,.int .i64 o,.int .i64 s] 49)).cell? ⟨W.heap.size,0,none⟩=some (.int .i64 n):=by go_simp
 have c1:(W.alloc (.cells #[.int .i64 n,.int .i64 o,.int .i64 s] 49)).cell? ⟨W.heap.size,1,none⟩=some (.int .i64 o):=by go_simp
 have c2:(W.alloc (.cells #[.int .i64 n,.int .i64 o,.int .i64 s] 49)).cell? ⟨W.heap.size,2,none⟩=some (.int .i64 s):=by go_simp
 go_enter Tryz.func118,Tryz.ntmps118
 go_upto_region 1 with fail
 generalize W.alloc (.cells #[.int .i64 n,.int .i64 o,.int .i64 s] 49)=w0 at *
 obtain ⟨B,hB⟩:∃B,B=W.heap.size:=⟨_,rfl⟩
 rw[←hB] at c0 c1 c2 ⊢
 have HB:=Zh hB
 clear hB
 go_upto_region 2 with (go_at_call 68;refine (zMY n o s _ data _ (HD.out.stays S0.below)).mono ?_;rintro e w1 ⟨⟨v1,rfl,hi1⟩,hb1⟩;rw[HE.out])
 have S1:=S0.step hb1
 rw[HSL.out] at hi1
 have HI1:=Zh hi1
 obtain ⟨a1,k1,rfl,_⟩:=hi1.opened
 have HSN:=Zh (zBK n data o (zAM n s))
 generalize hSS:zAV n data o (zAM n s)=SS at *
 have HSS:=Zh hSS
 clear hSS c0 c1 c2 hb1 hi1 HSL
 have HLS:Hid (∀w',zAD w1.heap.size w1 w'→zAN w' (.slice a ls.length c) ls):=Zh (fun w' q=>zAs HL.out (S1.step q.below).below)
 go_wp2_with fail
 go_loopw[20,9] (fun i x wr=>∃k:Nat,k≤ls.length∧i=.int .i64 k∧zAD w1.heap.size w1 wr∧zAJ wr 3 w1.heap.size x (zEb (ofD n (zAM n s) data) 0 (ls.take k))) (fun i _ _=>ls.length - (intOf i).toNat)
 case atStart=>exact ⟨0,by omega,rfl,zAD.refl w1,zAJ.nil _ _ _⟩
 case round =>
  obtain ⟨k,hk,rfl,hS,ho⟩:=hrel
  by_cases hlt:k<ls.length
  ·have hx:ls[k]?=some ls[k]:=List.getElem?_eq_getElem hlt
   obtain ⟨g,off,u,cu,rfl,k0,k1,hiv,hi1⟩:=zBZ (HLS.out wr hS) hx
   have hnum:=HN.out _ (List.mem_of_getElem? hx)
   have HST:=Zh (zMC (ofD n (zAM n s) data) hx)
   have hol:=zDI (ofD n (zAM n s) data) (ls.take k) 0
   have hol2:(zEb (ofD n (zAM n s) data) 0 (ls.take k)).length≤8:=by
    have:=List.countP_le_length (p:=ofD n (zAM n s) data) (l:=ls.take k)
    simp at this
    omega
   clear hol
   generalize ls[k]=t at *
   obtain ⟨m,hm⟩:=Int.eq_ofNat_of_zero_le hnum.1
   have hmo:m<o:=by omega
   have HM1:=Zh hm
   rw[hm] at k0
   have hsh:SS[m]?=some (zAY n data (zAM n s) m):=by rw[←HSS.out];exact zBX n data (zAM n s) hmo
   obtain ⟨g1,off1,u1,cu1,rfl,q0,q1,hiv1,_⟩:=zBZ (zAs HI1.out hS.below) hsh
   have hSSl:m<SS.length:=by rw[HSN.out];exact hmo
   have S2:=hS.alloc (.cells #[.int .i64 (m:Int),.slice u t.2.length cu] 64)
   have hA:=zAB wr (.cells #[.int .i64 (m:Int),.slice u t.2.length cu] 64)
   have HIV:=Zh (hiv.stays hA)
   have HIV1:=Zh (hiv1.stays hA)
   have HO:=Zh (ho.stays hA)
   have e0:=zAA hA q0
   have e1:=zAA hA q1
   have f0:(wr.alloc (.cells #[.int .i64 (m:Int),.slice u t.2.length cu] 64)).cell? ⟨wr.heap.size,0,none⟩=some (.int .i64 (m:Int)):=by go_simp
   have f1:(wr.alloc (.cells #[.int .i64 (m:Int),.slice u t.2.length cu] 64)).cell? ⟨wr.heap.size,1,none⟩=some (.slice u t.2.length cu):=by go_simp
   clear hx hm hsh hiv hiv1 q0 q1 ho hS hA
   go_upto_region 6 with fail
   generalize wr.alloc (.cells #[.int .i64 (m:Int),.slice u t.2.length cu] 64)=w3 at *
   obtain ⟨Bt,hBt⟩:∃Bt,Bt=wr.heap.size:=⟨_,rfl⟩
   rw[←hBt] at f0 f1 ⊢
   clear hBt k0 k1
   have ik:I64 (k:Int):=⟨by omega,by omega⟩
   generalize hT:ofD n (zAM n s) data t=T at *
   have HT:=Zh (show zCm (m:Int) (zAY n data (zAM n s) m).1 t.2 (zAY n data (zAM n s) m).2=T by rw[←hT];unfold ofD;rw[HM1.out];rfl)
   generalize zAY n data (zAM n s) m=X at *
   have hmo2:(m:Int)<SS.length:=by omega
   clear hT hnum
   have HS:Hid (∀w',zAD w3.heap.size w3 w'→w'.cell? ⟨Bt,0,none⟩=some (.int .i64 (m:Int))∧w'.cell? ⟨Bt,1,none⟩=some (.slice u t.2.length cu)∧w'.cell? ⟨g1,off1+m*2,none⟩=some (.int .i64 X.1)∧w'.cell? ⟨g1,off1+m*2+1,none⟩=some (.slice u1 X.2.length cu1)):=Zh (fun w' q=>⟨zAA q.below f0,zAA q.below f1,zAA q.below e0,zAA q.below e1⟩)
   have s3:=HS.out w3.drew (zAD.refl w3).drew
   clear f0 f1 e0 e1
   go_region_held3 (fun w'=>w'.cell? ⟨Bt,0,none⟩=some (.int .i64 (m:Int))∧w'.cell? ⟨Bt,1,none⟩=some (.slice u t.2.length cu)∧w'.cell? ⟨g1,off1+m*2,none⟩=some (.int .i64 X.1)∧w'.cell? ⟨g1,off1+m*2+1,none⟩=some (.slice u1 X.2.length cu1)) (first | exact s3 | exact s4) (first | (go_at_call 72;refine (zGs (m:Int) X.1 _ _ t.2 X.2 _ (HIV.out.stays (zAD.refl w3).drew.below) (HIV1.out.stays (zAD.refl w3).drew.below)).mono ?_;rintro e w4 ⟨rfl,hb4⟩;rw[HT.out];have p4:=(zAD.refl w3).drew.step hb4;have s4:=HS.out w4 p4))
   all_goals
    have S4:=S2.step p4.below
    have HO4:=Zh (HO.out.stays p4.below)
    clear s3 s4 hb4
    cases T with
    | true =>
     have ho5:=HO4.out.stays (zAB w4 (.cells #[.int .i64 (k:Int)] 3))
     go_wp2_with (at_builtin;refine zAc rfl _ _ 36 rfl 3 Tryz.underlying36 zBD w1.heap.size _ _ rfl ho5 ⟨w4.heap.size,0,none⟩ 1 (k:Int) rfl (by simp) ik (by omega) (by have:=S4.2;simp;omega) ?_;intro v' w6 ho6 hg6)
     have S6:=(S4.alloc (.cells #[.int .i64 (k:Int)] 3)).own ho5 hg6
     have HO6:=Zh ho6
     clear ho6 hg6 ho5
     go_roundw
     case rel=>exact ⟨k+1,by omega,by go_num,S6,by rw[HST.out];simpa using HO6.out⟩
     case measure=>simp[intOf];omega
    | false =>
     go_wp2_with fail
     go_roundw
     case rel=>exact ⟨k+1,by omega,by go_num,S4,by rw[HST.out];simpa using HO4.out⟩
     case measure=>simp[intOf];omega
  ·obtain rfl:ls.length=k:=by omega
   go_wp2_with fail
   go_ret
   rw[List.take_length] at ho
   exact ⟨⟨_,rfl,ho.mono S1.2⟩,(S1.step hS.below).below⟩
theorem zAJ.take{w:World}{e:TypeId}{base:Nat}{a:Option Addr}{L cap:Nat}{l:List Int}(h:zAJ w e base (.slice a L cap) l)(n:Nat)(hn:n≤l.length):zAJ w e base (.slice a n cap) (l.take n):=by
 obtain ⟨⟨h1,h2⟩,h3,h4⟩:=h
 have hl:(l.take n).length=n:=by simp;omega
 refine ⟨⟨by simp,?_⟩,fun x hx=>h3 x (List.mem_of_mem_take hx),by omega⟩
 rcases h2 with ⟨e1,e2⟩|⟨g,cap',cur,e1,hb,hg,hnc,hcm,hcs,htk⟩
 ·simp only[Value.slice.injEq] at e1
  obtain ⟨rfl,rfl,rfl⟩:=e1
  have:n=0:=by omega
  subst this
  exact .inl ⟨rfl,by simp⟩
 ·simp only[Value.slice.injEq] at e1
  obtain ⟨rfl,rfl,rfl⟩:=e1
  refine .inr ⟨g,cap,cur,by rw[hl],hb,hg,by omega,hcm,hcs,?_⟩
  rw[hl,List.map_take,←htk,List.take_take]
  congr 1
  omega
theorem zBd(g:Nat):∀(vs:List Value) (o:Nat) (w:World),w.grownBy (w.setCells g o vs) (some g)
 | [],_,w=>World.grownBy.refl w _
 | v::vs,o,w=>(zAC w ⟨g,o,none⟩ v).trans (zBd g vs (o+1) (w.setCell ⟨g,o,none⟩ v))
theorem zDN:(Tryz.prog.info? 64).map (fun i=>(i.zero,i.size,i.bytes))=some (some (.agg #[.int .i64 0,.slice none 0 0]),2,32):=by kernel_rfl
theorem zBA.one:zBA.One:=by
 rintro w cs x ⟨v,rfl,h,_⟩ c hc
 obtain ⟨a,cp,rfl,_⟩:=h.opened
 simp at hc
 rcases hc with rfl|rfl<;>rfl
theorem zCN{sz:Nat}:∀{rows:List (List Value)} (n:Nat),(∀r∈rows,r.length=sz)→(rows.drop n).flatten=rows.flatten.drop (n*sz)
 | [],n,_=>by simp
 | q::rows,0,_=>by simp
 | q::rows,n+1,hs=>by
  have hq:=hs q (by simp)
  rw[List.drop_succ_cons,List.flatten_cons,zCN n (fun r hr=>hs r (by simp[hr])),List.drop_append,hq,List.drop_of_length_le (l:=q) (by rw[hq,Nat.add_mul];omega),List.nil_append]
  rw[show (n+1)*sz - sz=n*sz by rw[Nat.add_mul];omega]
section
variable {α : Type} {R : Rd α} {sz : Nat} {E : Nat → Prop} {w : World} {e : TypeId} {base : Nat} {l : List α}
theorem zAK.deleted{g L cap:Nat}(h:zAK sz R E w e base (.slice (some ⟨g,0,none⟩) L cap) l){k:Nat}(hk:k<l.length)(hL:L=l.length){news zs:List Value}(hzs:zs.length=sz)
  (hn:∀rows:List (List Value),w.ownsRow base e sz (.slice (some ⟨g,0,none⟩) L cap) l.length rows.flatten→rows.length=l.length→(∀r∈rows,r.length=sz)→news=(rows.drop (k+1)).flatten) :
  zAK sz R E ((w.setCells g (k*sz) news).setCells g ((L - 1)*sz) zs) e base (.slice (some ⟨g,0,none⟩) (L - 1) cap) (l.eraseIdx k):=by
 subst hL
 obtain ⟨rows,h1,h2,h3,h4⟩:=h.row
 have hsz:∀r∈rows,r.length=sz:=fun r hr=>(h3 r hr).1
 have hnews:=hn rows h1 h2 hsz
 have ht:=h.top
 have hle:(l.eraseIdx k).length=l.length - 1:=by rw[List.length_eraseIdx,if_pos hk]
 have hnl:news.length=(l.length - (k+1))*sz:=by rw[hnews,zBW (fun r hr=>hsz r (List.mem_of_mem_drop hr)),List.length_drop,h2]
 have hdirty:zAF (fun k=>(Value.slice (some ⟨g,0,none⟩) l.length cap).ownBlock=some k∨E k) w ((w.setCells g (k*sz) news).setCells g ((l.length - 1)*sz) zs):=
  (zAF.of_grown ((zBd g news (k*sz) w).trans (zBd g zs ((l.length - 1)*sz) _))).mono fun j _ hj=>by cases hj;exact Or.inl rfl
 refine ⟨by omega,rows.eraseIdx k,?_,?_,fun r hr=>h3 r (List.mem_of_mem_eraseIdx hr),?_⟩
 ·have her:rows.eraseIdx k=rows.take k++rows.drop (k+1):=List.eraseIdx_eq_take_drop_succ ..
  have hfl:(rows.eraseIdx k).flatten=rows.flatten.take (k*sz)++news:=by rw[her,List.flatten_append,zEP k hsz,←hnews]
  have hfll:rows.flatten.length=l.length*sz:=by rw[zBW hsz,h2]
  rw[hfl,hle]
  have hk1:k*sz+(l.length - (k+1))*sz=(l.length - 1)*sz:=by rw[←Nat.add_mul];congr 1;omega
  have hk2:(l.length - 1)*sz+sz=l.length*sz:=by
   have:(l.length - 1)*sz+1*sz=(l.length - 1+1)*sz:=(Nat.add_mul _ _ _).symm
   rw[Nat.one_mul] at this
   rw[this];congr 1;omega
  refine ⟨?_,?_⟩
  ·rw[List.length_append,List.length_take,hfll,hnl,Nat.min_eq_left (Nat.mul_le_mul_right _ (by omega))]
   exact hk1
  ·rcases h1.2 with ⟨h5,_⟩|⟨g',cap',cur,h5,h6,h7,h8,h9,h10,h11⟩
   ·cases h5
   ·simp only[Value.slice.injEq,Option.some.injEq,Addr.mk.injEq] at h5
    obtain ⟨⟨rfl,_,_⟩,_,rfl⟩:=h5
    have hcap:l.length*sz≤cur.size:=by rw[h10];exact Nat.mul_le_mul_right _ h8
    obtain ⟨cur1,c1,c2,c3⟩:=zC1 g e news (k*sz) w cur h7 (by rw[hnl];omega)
    obtain ⟨cur2,d1,d2,d3⟩:=zC1 g e zs ((l.length - 1)*sz) _ cur1 c1 (by rw[c2,hzs];omega)
    refine .inr ⟨g,cap,cur2,rfl,h6,d1,by omega,h9,by rw[d2,c2,h10],?_⟩
    apply List.ext_getElem?
    intro j
    rw[List.getElem?_take]
    by_cases hj:j<(l.length - 1)*sz
    ·rw[if_pos hj,Array.getElem?_toList,d3,if_neg (by omega),c3]
     have hcj:j<rows.flatten.length:=by omega
     have hcur:cur[j]?=rows.flatten[j]?:=by
      rw[←h11,List.getElem?_take,if_pos (by omega),Array.getElem?_toList]
     have htl:(rows.flatten.take (k*sz)).length=k*sz:=by rw[List.length_take,hfll,Nat.min_eq_left (Nat.mul_le_mul_right _ (by omega))]
     by_cases hjk:j<k*sz
     ·rw[if_neg (by omega),List.getElem?_append_left (by omega),List.getElem?_take,if_pos hjk,hcur]
     ·rw[if_pos (by omega),List.getElem?_append_right (by omega),htl]
    ·rw[if_neg hj,List.getElem?_eq_none (by
      rw[List.length_append,List.length_take,hfll,hnl,Nat.min_eq_left (Nat.mul_le_mul_right _ (by omega))]
      omega)]
 ·rw[List.length_eraseIdx,List.length_eraseIdx,h2]
 ·intro m q x hq hx
  have hmv:∀j,j<w.heap.size→((Value.slice (some ⟨g,0,none⟩) (l.length - 1) cap).ownBlock=some j∨E j)→((Value.slice (some ⟨g,0,none⟩) l.length cap).ownBlock=some j∨E j):=fun j _ hj=>hj
  rw[List.getElem?_eraseIdx] at hq hx
  split at hq
  ·rename_i hmk
   rw[if_pos hmk] at hx
   exact (h4 m q x hq hx).move hdirty hmv
  ·rename_i hmk
   rw[if_neg hmk] at hx
   exact (h4 (m+1) q x hq hx).move hdirty hmv
end
set_option maxRecDepth 100000 in
theorem zDe{R:Rd Sh}(hRS:R.Stays)(hR1:R.One)(v:Value)(b:List Sh)(w0 w:World)(hw0:zAF (fun _=>False) w0 w)(hv:zAZ 2 R w0 v b)(hb:b.length≤1000000) :
  Calls Tryz.prog 119 #[v] w fun e w'=>(∃v',e=.returned v'∧zAK 2 R (fun k=>w0.heap.size≤k) w' 64 w.heap.size v' b)∧Below w.heap.size w w':=by
 have hq:∀(w:World) (a:Option Addr) (n c n' c':Nat),(binOp .eql 83 (.slice a n c) (.slice none n' c')).run Tryz.prog w=.ok (.bool a.isNone) w:=fun w a n c n' c'=>Lib.run_eql_slice_nil w _ _ a n c n' c' Tryz.underlying83
 have hv0:=hv
 obtain ⟨ax,cx,rfl,hcx,hmx,hx⟩:=hv.opened
 obtain ⟨hm1,hm2,hm3⟩:=hmx
 cases ax with
 | none =>
  have hc0:=hm3 rfl
  have hl0:b=[]:=by
   cases b with
   | nil=>rfl
   | cons y r=>obtain ⟨b,off,e1,_⟩:=hx 0 y rfl;cases e1
  subst hc0 hl0
  clear hx
  go_enter Tryz.func119,Tryz.ntmps119
  go_wp2
  go_ret
  exact ⟨⟨_,rfl,zAK.nil _ _ _⟩,Below.refl _ _⟩
 | some ad =>
  clear hm3 hx hv
  have hown:=zAK.made (R:=R) (sz:=2) (E:=fun k=>w0.heap.size≤k) w 64
  have HV:=Zh hv0
  have HD:Hid (zAF (fun _=>False) w0 (w.alloc (.cells #[] 64))):=Zh (hw0.trans (zAF.old (zAB _ _) _))
  have hsz:=hw0.1
  clear hv0 hw0
  go_enter Tryz.func119,Tryz.ntmps119
  go_wp2_with (at_builtin;refine zCE rfl _ _ 83 rfl 2 _ 64 Tryz.underlying83 _ 32 zDN rfl (by omega) (by omega) w.heap.size _ [] rfl hown w0 HD.out b _ rfl HV.out hRS hR1 (by intro k hk;rcases hk with hk | hk;(cases hk;exact hsz);exact hk) (by simp;omega) (by simp) ?_;intro v' w1 hown1 hg1 _)
  go_ret
  exact ⟨⟨_,rfl,hown1⟩,zGv (zAB _ _) hown hg1 (by simp)⟩
def RAt{α:Type}(W:World)(R:Rd α):Rd α:=fun _ cs x=>R W cs x
theorem RAt.stays{α:Type}{W:World}{R:Rd α}:(RAt W R).Stays:=fun _ _ _ h _ _=>h
theorem RAt.one{α:Type}{W:World}{R:Rd α}(h:R.One):(RAt W R).One:=fun _ cs x hr=>h W cs x hr
theorem zAZ.ofAt{α:Type}{W w:World}{R:Rd α}{sz:Nat}{v:Value}{l:List α}(h:zAZ sz (RAt W R) w v l)(hR:R.Stays)(hw:zAF (fun _=>False) W w):zAZ sz R w v l:=by
 obtain ⟨a,c,e,h1,h2,h3⟩:=h
 refine ⟨a,c,e,h1,h2,fun i x hx=>?_⟩
 obtain ⟨b,off,e',cs,g1,g2,g3⟩:=h3 i x hx
 exact ⟨b,off,e',cs,g1,g2,hR W cs x g3 w hw⟩
theorem zAK.anyE{α:Type}{W w:World}{R:Rd α}{sz:Nat}{E E':Nat→Prop}{e:TypeId}{base:Nat}{v:Value}{l:List α}(h:zAK sz (RAt W R) E w e base v l):zAK sz (RAt W R) E' w e base v l:=by
 have:=h.conv (R':=RAt W R) (E':=E') id (fun cs x _ hf w' _=>(hf.now:R W cs x))
 simpa using this
theorem zBe.sub{n o s:Nat}{ls pk:List Sh}(h:zBe n o s ls)(hs:pk.Sublist ls)(hn:n≤pk.length):zBe n o s pk:=
 ⟨h.plan,hn,Nat.le_trans hs.length_le h.many,fun t ht=>h.num t (hs.subset ht),fun t ht=>h.len t (hs.subset ht),fun t ht=>h.vals t (hs.subset ht),h.nodup.sublist (hs.map _)⟩
theorem zBe.check{n o s:Nat}{ls:List Sh}(h:zBe n o s ls):zAw n o s [] ls=0:=
 zGQ (fun t ht=>zJO h.plan (h.num t ht).1 (h.num t ht).2 (h.len t ht) (h.vals t ht)) (by simpa[List.Nodup] using h.nodup)
theorem zBe.checks{n o s:Nat}{ls:List Sh}(h:zBe n o s ls):zAb n o s ls=0:=by
 have h1:=h.few
 have h2:=h.many
 unfold zAb
 rw[if_neg (by simpa using h.plan),if_neg (by omega),if_neg (by simpa using h.check),if_neg (by omega)]
theorem zGo{n o s:Nat}{ls:List Sh}:zAb n o s ls=0↔zBe n o s ls:=by
 refine ⟨fun h=>?_,zBe.checks⟩
 unfold zAb at h
 split at h
 ·rename_i h1;exact absurd h h1
 ·rename_i h1
  split at h
  ·simp at h
  ·rename_i h2
   split at h
   ·rename_i h3;exact absurd h h3
   ·rename_i h3
    split at h
    ·simp at h
    ·rename_i h4
     exact zLf (by simpa using h1) (by omega) (by omega) (by simpa using h3)
theorem zHT{n o s:Nat}{ls:List Sh}(h:zBe n o s ls)(hj:zBx n o s ls=0):zAe n o s (zCI n o s ls)=0:=by
 obtain ⟨p1,p2,p3,p4,p5,p6⟩:=zAg h.plan
 obtain ⟨r1,r2,r3⟩:=zGq (n:=n) (s:=s) (by omega) (by omega) (by omega) (by omega)
 have hl:(zCI n o s ls).length=s:=by
  rw[zF2 hj]
  unfold zPu
  rw[List.length_take,zDH]
  omega
 have hv:zEn (zCI n o s ls)=0:=by
  rw[zFj,zF2 hj]
  intro z hz
  have hz:=List.mem_of_mem_take hz
  unfold zCB at hz
  obtain ⟨q,hq,hz⟩:=List.mem_flatten.1 hz
  obtain ⟨i,_,rfl⟩:=List.mem_map.1 hq
  obtain ⟨j,_,rfl⟩:=List.mem_map.1 hz
  exact zEk _ _ _
 unfold zAe
 rw[if_neg (by simpa using h.plan),if_neg (by rw[hl];simp),hv]
structure Tb where
 (p l w b t:Nat)
def Tb.ok(z:Tb)(B:Nat):Prop:=z.p≠z.w∧z.p≠z.b∧z.l≠z.w∧z.l≠z.b∧z.t≠z.w∧z.t≠z.b∧z.w≠z.b∧B≤z.w∧B≤z.b
def Tb.E(z:Tb)(k:Nat):Prop:=k=z.w∨k=z.b
def Tb.caps(z:Tb):Array Value:=#[.pointer (some ⟨z.p,0,none⟩),.pointer (some ⟨z.l,0,none⟩),.pointer (some ⟨z.w,0,none⟩),.pointer (some ⟨z.b,0,none⟩),.pointer (some ⟨z.t,0,none⟩)]
def zSW(z:Tb)(n o s:Nat)(al:Option Addr)(ln cl:Nat)(w:World):Prop:=
 w.cell? ⟨z.p,0,none⟩=some (.int .i64 n)∧w.cell? ⟨z.p,1,none⟩=some (.int .i64 o)∧w.cell? ⟨z.p,2,none⟩=some (.int .i64 s)∧w.cell? ⟨z.l,0,none⟩=some (.slice al ln cl)∧w.cell? ⟨z.t,0,none⟩=some (.func (.func 117) #[] z.caps)
theorem zSW.dirty{z:Tb}{B n o s:Nat}{al:Option Addr}{ln cl:Nat}{w w':World}(h:zSW z n o s al ln cl w)(hz:z.ok B)(hw:zAF z.E w w'):zSW z n o s al ln cl w':=by
 obtain ⟨h1,h2,h3,h4,h5⟩:=h
 obtain ⟨z1,z2,z3,z4,z5,z6,z7,_,_⟩:=hz
 have np:¬z.E z.p:=fun h=>by rcases h with h | h<;>omega
 have nl:¬z.E z.l:=fun h=>by rcases h with h | h<;>omega
 have nt:¬z.E z.t:=fun h=>by rcases h with h | h<;>omega
 exact ⟨hw.cell h1 np,hw.cell h2 np,hw.cell h3 np,hw.cell h4 nl,hw.cell h5 nt⟩
theorem zSW.stays{z:Tb}{n o s:Nat}{al:Option Addr}{ln cl:Nat}{w w':World}(h:zSW z n o s al ln cl w)(hw:Below w.heap.size w w'):zSW z n o s al ln cl w':=by
 obtain ⟨h1,h2,h3,h4,h5⟩:=h
 exact ⟨zAA hw h1,zAA hw h2,zAA hw h3,zAA hw h4,zAA hw h5⟩
def zLv(z:Tb)(w:World)(st:Vs):Prop:=
 ∃aw cw ab nb cb,w.heap[z.w]?=some (.cells #[.slice aw st.2.length cw] 36 (0,0))∧w.heap[z.b]?=some (.cells #[.slice ab nb cb] 36 (0,0))∧zAG w (.slice aw st.2.length cw) st.2∧zAG w (.slice ab nb cb) st.1∧(st.2=[]→aw=none∧cw=0)
theorem zLv.stays{z:Tb}{w w':World}{st:Vs}(h:zLv z w st)(hw:Below w.heap.size w w'):zLv z w' st:=by
 obtain ⟨aw,cw,ab,nb,cb,h1,h2,h3,h4,h5⟩:=h
 exact ⟨aw,cw,ab,nb,cb,(hw.block z.w (Array.getElem?_eq_some_iff.1 h1).1).trans h1,(hw.block z.b (Array.getElem?_eq_some_iff.1 h2).1).trans h2,h3.stays hw,h4.stays hw,h5⟩
theorem zPR{w:World}{v:Value}{l:List Int}{g:Nat}{a:Option Addr}{n c:Nat}{T:TypeId}(h:zAG w v l)(hg:w.heap[g]?=some (.cells #[.slice a n c] T (0,0))):∀k,Value.lies v k→l≠[]→k≠g:=by
 rintro k ⟨y,n',c',rfl,rfl⟩ hl e
 obtain ⟨a',c'',e1,_,_,hi⟩:=h
 simp only[Value.slice.injEq] at e1
 obtain ⟨rfl,_,_⟩:=e1
 obtain ⟨b,off,z,e2,hc,_⟩:=hi 0 (List.length_pos_iff.2 hl)
 cases e2
 simp only at e
 subst e
 unfold World.cell? at hc
 simp only[hg] at hc
 rcases Nat.eq_zero_or_pos off with h0|h0
 ·subst h0;simp at hc
 ·have hn:(#[Value.slice a n c]:Array Value)[off+0]?=none:=Array.getElem?_eq_none (by simp;omega)
  simp only[hn] at hc
  split at hc<;>cases hc
theorem zLv.vote{z:Tb}{w:World}{st:Vs}{B:Nat}(h:zLv z w st)(hz:z.ok B){a1 a2:Option Addr}{n1 c1 c2:Nat}{D F:List Int}(h1:zAG w (.slice a1 n1 c1) D)(h2:zAG w (.slice a2 F.length c2) F)(hF:F≠[]) :
  zLv z ((w.setCell ⟨z.b,0,none⟩ (.slice a1 n1 c1)).setCell ⟨z.w,0,none⟩ (.slice a2 F.length c2)) (D,F)∧zAF z.E w ((w.setCell ⟨z.b,0,none⟩ (.slice a1 n1 c1)).setCell ⟨z.w,0,none⟩ (.slice a2 F.length c2)):=by
 obtain ⟨aw,cw,ab,nb,cb,g1,g2,_⟩:=h
 obtain ⟨_,_,_,_,_,_,z7,_,_⟩:=hz
 have hd:zAF z.E w ((w.setCell ⟨z.b,0,none⟩ (.slice a1 n1 c1)).setCell ⟨z.w,0,none⟩ (.slice a2 F.length c2)):=
  ((zAF.of_grown (zAC w ⟨z.b,0,none⟩ (.slice a1 n1 c1))).mono (fun k _ hk=>by cases hk;exact Or.inr rfl)).trans ((zAF.of_grown (zAC _ ⟨z.w,0,none⟩ (.slice a2 F.length c2))).mono (fun k _ hk=>by cases hk;exact Or.inl rfl))
 have hoff:∀{v:Value} {l:List Int},zAG w v l→∀k,Value.lies v k→l≠[]→¬z.E k:=fun hi k hk hl hE=>by
  rcases hE with hE|hE
  ·exact zPR hi g1 k hk hl hE
  ·exact zPR hi g2 k hk hl hE
 refine ⟨⟨a2,c2,a1,n1,c1,?_,?_,h2.framed (hoff h2) hd,h1.framed (hoff h1) hd,fun e=>absurd e hF⟩,hd⟩
 ·have e1:(w.setCell ⟨z.b,0,none⟩ (.slice a1 n1 c1)).heap[z.w]?=some (.cells #[.slice aw st.2.length cw] 36 (0,0)):=(Below.heap_setCell w ⟨z.b,0,none⟩ _ z.w z7).trans g1
  have:=heap_setCell_same _ z.w 0 _ _ (.slice a2 F.length c2) e1
  simpa using this
 ·have e1:=heap_setCell_same w z.b 0 _ _ (.slice a1 n1 c1) g2
  exact (Below.heap_setCell _ ⟨z.w,0,none⟩ _ z.b (fun e=>z7 e.symm)).trans (by simpa using e1)
theorem zBp(w:World)(l:List Value)(T:TypeId)(n:Nat)(hn:n=w.heap.size):∀j u,l[j]?=some u→(w.alloc (.cells l.toArray T)).cell? ((⟨n,0,none⟩:Addr).add j)=some u:=by
 subst hn
 intro j u hj
 rw[zA7]
 unfold World.cell? World.alloc
 simp[hj]
theorem zLv.off{z:Tb}{w:World}{st:Vs}(h:zLv z w st){W:World}{E:Nat→Prop}{base:Nat}{v:Value}{l:List Sh}(ho:zAK 2 (RAt W zBA) E w 64 base v l):∀k,v.ownBlock=some k→¬z.E k:=by
 intro k hk hE
 obtain ⟨aw,cw,ab,nb,cb,h1,h2,_⟩:=h
 rcases ho.shape with ⟨rfl,_⟩|⟨g,cap,cur,rfl,_,_,_,_,hc,_⟩
 ·cases hk
 ·simp only[Value.ownBlock,Option.some.injEq] at hk
  subst hk
  rcases hE with rfl|rfl
  ·rw[hc] at h1;cases h1
  ·rw[hc] at h2;cases h2
theorem zOS(w:World)(a b c:Value)(T U:TypeId):∃ws,ws=((w.alloc (.cells #[a] T)).alloc (.cells #[b] T)).alloc (.cells #[c] U)∧ws.heap[w.heap.size]?=some (.cells #[a] T (0,0))∧ws.heap[w.heap.size+1]?=some (.cells #[b] T (0,0))∧ws.heap[w.heap.size+1+1]?=some (.cells #[c] U (0,0))∧zAD w.heap.size w ws:=by
 refine ⟨_,rfl,?_,?_,?_,(((zAD.refl w).alloc _).alloc _).alloc _⟩
 ·rw[heap_alloc_old _ _ (by simp;omega),heap_alloc_old _ _ (by simp)]
  exact heap_alloc_new w _
 ·rw[heap_alloc_old _ _ (by simp)]
  have:=heap_alloc_new (w.alloc (.cells #[a] T)) (.cells #[b] T)
  simpa using this
 ·have:=heap_alloc_new ((w.alloc (.cells #[a] T)).alloc (.cells #[b] T)) (.cells #[c] U)
  simpa using this
theorem zAN.from{w:World}{b off L cap:Nat}{ls:List Sh}(h:zAN w (.slice (some ⟨b,off,none⟩) L cap) ls)(n:Nat)(hn:n≤ls.length) :
  zAN w (.slice (some ⟨b,off+n*2,none⟩) (L - n) (cap - n)) (ls.drop n):=by
 obtain ⟨a',cap',e,h1,⟨h2,h3,h4⟩,h5⟩:=h
 simp only[Value.slice.injEq] at e
 obtain ⟨rfl,rfl,rfl⟩:=e
 refine ⟨some ⟨b,off+n*2,none⟩,cap - n,by simp,by simp;omega,⟨by simp;omega,by omega,fun e=>by cases e⟩,?_⟩
 intro i hi
 simp at hi
 obtain ⟨b',off',v,s,e,g1,g2,g3,g4,g5⟩:=h5 (n+i) (by omega)
 cases e
 refine ⟨b,off+n*2,v,s,rfl,?_,?_,g3,by rw[List.getElem?_drop];exact g4,g5⟩
 ·rw[show off+n*2+i*2=off+(n+i)*2 by omega];exact g1
 ·rw[show off+n*2+i*2+1=off+(n+i)*2+1 by omega];exact g2
theorem zAN.take{w:World}{a:Option Addr}{L cap:Nat}{ls:List Sh}(h:zAN w (.slice a L cap) ls)(n:Nat)(hn:n≤ls.length)(c:Nat)(hc:n≤c)(hcm:c≤9223372036854775807)(ha:a=none→c=0) :
  zAN w (.slice a n c) (ls.take n):=by
 obtain ⟨a',cap',e,h1,⟨h2,h3,h4⟩,h5⟩:=h
 simp only[Value.slice.injEq] at e
 obtain ⟨rfl,_,rfl⟩:=e
 refine ⟨a,c,by simp;omega,by simp;omega,⟨by simp;omega,hcm,ha⟩,?_⟩
 intro i hi
 have hi':i<n:=by simp at hi;omega
 obtain ⟨b,off,v,s,rfl,g1,g2,g3,g4,g5⟩:=h5 i (by omega)
 exact ⟨b,off,v,s,rfl,g1,g2,g3,by rw[List.getElem?_take,if_pos hi'];exact g4,g5⟩
set_option maxRecDepth 100000 in
theorem zUM(n o s:Int)(v:Value)(ls:List Sh)(W:World)(hd:zAN W v ls)(hp:zAx n o s=0)(hl:ls.length≤8)(hE:zAw n o s [] ls≠0) :
  Calls Tryz.prog 116 #[.agg #[.int .i64 n,.int .i64 o,.int .i64 s],v] W fun e w'=>e=.returned (.tuple #[.slice none 0 0,.int .i64 (zAw n o s [] ls)])∧Below W.heap.size W w':=by
 obtain ⟨a,c,rfl,hcap,⟨hm,hcm,hnone⟩,_⟩:=hd.opened
 have S0:=(zAD.refl W).alloc (.cells #[.int .i64 n,.int .i64 o,.int .i64 s] 49)
 have hd0:=hd.stays (zAB _ (.cells #[.int .i64 n,.int .i64 o,.int .i64 s] 49))
 have c0:(W.alloc (.cells #[.int .i64 n,.int .i64 o,.int .i64 s] 49)).cell? ⟨W.heap.size,0,none⟩=some (.int .i64 n):=by go_simp
 have c1:(W.alloc (.cells #[.int .i64 n,.int .i64 o,.int .i64 s] 49)).cell? ⟨W.heap.size,1,none⟩=some (.int .i64 o):=by go_simp
 have c2:(W.alloc (.cells #[.int .i64 n,.int .i64 o,.int .i64 s] 49)).cell? ⟨W.heap.size,2,none⟩=some (.int .i64 s):=by go_simp
 obtain ⟨w0,hw0⟩:∃w0,w0=W.alloc (.cells #[.int .i64 n,.int .i64 o,.int .i64 s] 49):=⟨_,rfl⟩
 rw[←hw0] at S0 hd0 c0 c1 c2
 have HW:=Zh hw0
 clear hw0
 obtain ⟨B,hB⟩:∃B,B=W.heap.size:=⟨_,rfl⟩
 rw[←hB] at c0 c1 c2
 have HB:=Zh hB
 clear hB
 have l0:=zAH c0
 have HP:=Zh hp
 have HE:=Zh hE
 clear hp hE hd
 go_enter Tryz.func116,Tryz.ntmps116
 go_wp2_with fail
 rw[←HW.out,←HB.out]
 refine (zAu _ _ _ _).mono ?_
 rintro e w1 ⟨rfl,hb1⟩
 rw[HP.out]
 have T1:=(zAD.refl w0).step hb1
 clear hb1
 go_wp2_with fail
 go_loopw[35] (fun i wr=>∃k:Nat,k≤ls.length∧i=.int .i64 k∧zAD w0.heap.size w0 wr∧zAw n o s (ls.take k) (ls.drop k)=zAw n o s [] ls) (fun i _=>ls.length - (intOf i).toNat)
 case atStart=>exact ⟨0,by omega,rfl,T1,by simp⟩
 case round =>
  obtain ⟨k,hk,rfl,hS,hq⟩:=hrel
  have HQ:=Zh hq
  clear hq
  have hdr:=hd0.stays hS.below
  clear T1
  by_cases hlt:k<ls.length
  ·obtain ⟨a',c',ee,_,_,hi⟩:=hdr.opened
   simp only[Value.slice.injEq] at ee
   obtain ⟨rfl,_,rfl⟩:=ee
   obtain ⟨b1,o1,v1,s1,rfl,h1,h2,h3,h4,h5⟩:=hi k hlt
   have HD:=Zh (zAr h4)
   have HT:=Zh (show ls.take (k+1)=ls.take k++[s1] by rw[List.take_add_one,h4];rfl)
   clear h4 hi
   obtain ⟨a1,k1,rfl,_⟩:=h3.opened
   have S2:=hS.alloc (.cells #[.int .i64 s1.1,.slice a1 s1.2.length k1] 64)
   have hdr2:=hdr.stays (zAB wr (.cells #[.int .i64 s1.1,.slice a1 s1.2.length k1] 64))
   have h32:=h3.stays (zAB wr (.cells #[.int .i64 s1.1,.slice a1 s1.2.length k1] 64))
   have e0:=(S2.below.cell (p:=⟨B,0,none⟩) l0).trans c0
   have e1:=(S2.below.cell (p:=⟨B,1,none⟩) l0).trans c1
   have e2:=(S2.below.cell (p:=⟨B,2,none⟩) l0).trans c2
   have e3:(wr.alloc (.cells #[.int .i64 s1.1,.slice a1 s1.2.length k1] 64)).cell? ⟨wr.heap.size,0,none⟩=some (.int .i64 s1.1):=by go_simp
   have e4:(wr.alloc (.cells #[.int .i64 s1.1,.slice a1 s1.2.length k1] 64)).cell? ⟨wr.heap.size,1,none⟩=some (.slice a1 s1.2.length k1):=by go_simp
   have l3:=zAH e3
   have hdk:=hdr2.take k hk c (by omega) hcm hnone
   by_cases hone:zDy n o s s1.1 s1.2=0
   ·have HO:=Zh hone
    clear hone
    have hkc:k≤c:=by omega
    go_wp2_with fail
    refine (zI1 _ _ _ _ _ _ _ h32).mono ?_
    rintro e w3 ⟨rfl,hb3⟩
    rw[HO.out]
    have S3:=S2.step hb3
    have hdk3:=hdk.stays hb3
    have e33:=(hb3.cell (p:=⟨wr.heap.size,0,none⟩) l3).trans e3
    obtain ⟨H,hH⟩:∃H,H=zII (ls.take k) s1.1:=⟨_,rfl⟩
    have HH:=Zh hH
    clear hH e0 e1 e2 e3 e4 h1 h2 hdr hdr2 hdk hb3
    go_wp2_with fail
    refine (zC9 _ _ _ _ _ hdk3 e33).mono ?_
    rintro e w4 ⟨rfl,hb4⟩
    rw[←HH.out]
    have S4:=S3.step hb4
    cases H with
    | true =>
     go_wp2_with fail
     go_ret2
     refine ⟨zDk ?_,(S0.step S4.below).below⟩
     rw[←HQ.out,HD.out]
     simp[zAw,HO.out,←HH.out]
    | false =>
     go_wp2_with fail
     go_roundw
     case rel =>
      refine ⟨k+1,by omega,by go_num,S4,?_⟩
      rw[←HQ.out,HD.out,HT.out]
      simp[zAw,HO.out,←HH.out]
     case measure=>simp[intOf];omega
   ·have hone1:(zDy n o s s1.1 s1.2 != 0)=true:=by simpa using hone
    have HO:=Zh hone
    clear hone
    go_wp2_with fail
    refine (zI1 _ _ _ _ _ _ _ h32).mono ?_
    rintro e w3 ⟨rfl,hb3⟩
    have S3:=S2.step hb3
    clear e0 e1 e2 e3 e4 h1 h2 hdr hdr2 hdk
    go_wp2_with fail
    go_ret2
    refine ⟨zDk ?_,(S0.step S3.below).below⟩
    rw[←HQ.out,HD.out]
    unfold zAw
    rw[if_pos HO.out]
  ·obtain rfl:ls.length=k:=by omega
   exfalso
   apply HE.out
   rw[←HQ.out]
   simp[zAw]
set_option maxRecDepth 100000 in
theorem zRk(n o s:Nat)(v:Value)(ls:List Sh)(W:World)(hd:zAN W v ls)(hR:zBe n o s ls)(hE:zAw n o s [] ls=0) :
  Calls Tryz.prog 116 #[.agg #[.int .i64 n,.int .i64 o,.int .i64 s],v] W fun e w'=>(∃v',e=.returned (.tuple #[v',.int .i64 (zBx n o s ls)])∧zAG w' v' (zCI n o s ls))∧Below W.heap.size W w':=by
 obtain ⟨p1,p2,p3,p4,p5,p6⟩:=zAg hR.plan
 have hlen8:=hR.many
 have hfew:=hR.few
 obtain ⟨r1,r2,r3⟩:=zGq (n:=n) (s:=s) (by omega) (by omega) (by omega) (by omega)
 obtain ⟨a,c,rfl,hcap,⟨hm,hcm,hnone⟩,hda⟩:=hd.opened
 have S0:=(zAD.refl W).alloc (.cells #[.int .i64 (n:Int),.int .i64 (o:Int),.int .i64 (s:Int)] 49)
 have hd0:=hd.stays (zAB _ (.cells #[.int .i64 (n:Int),.int .i64 (o:Int),.int .i64 (s:Int)] 49))
 have c0:(W.alloc (.cells #[.int .i64 (n:Int),.int .i64 (o:Int),.int .i64 (s:Int)] 49)).cell? ⟨W.heap.size,0,none⟩=some (.int .i64 (n:Int)):=by go_simp
 have c1:(W.alloc (.cells #[.int .i64 (n:Int),.int .i64 (o:Int),.int .i64 (s:Int)] 49)).cell? ⟨W.heap.size,1,none⟩=some (.int .i64 (o:Int)):=by go_simp
 have c2:(W.alloc (.cells #[.int .i64 (n:Int),.int .i64 (o:Int),.int .i64 (s:Int)] 49)).cell? ⟨W.heap.size,2,none⟩=some (.int .i64 (s:Int)):=by go_simp
 obtain ⟨w0,hw0⟩:∃w0,w0=W.alloc (.cells #[.int .i64 (n:Int),.int .i64 (o:Int),.int .i64 (s:Int)] 49):=⟨_,rfl⟩
 rw[←hw0] at S0 hd0 c0 c1 c2
 have HW:=Zh hw0
 clear hw0
 obtain ⟨B,hB⟩:∃B,B=W.heap.size:=⟨_,rfl⟩
 rw[←hB] at c0 c1 c2
 have HB:=Zh hB
 clear hB
 have l0:=zAH c0
 obtain ⟨bd,od,_,_,rfl,_⟩:=hda 0 (by omega)
 have HR:=Zh hR
 have HP:=Zh hR.plan
 have hchk:zAw n o s [] ls=0:=hE
 have HE:=Zh hchk
 have hJ:zBx n o s ls=if zEJ n ls (zAM n s) then 9 else if zBl ((zCB n ls (zAM n s)).drop s) then 9 else 0:=by
  unfold zBx zAb
  rw[if_neg (c:=zAx n o s≠0) (by simpa using hR.plan),if_neg (c:=8<(ls.length:Int)) (by omega),if_neg (c:=zAw n o s [] ls≠0) (by simpa using hE),if_neg (c:=(ls.length:Int)<n) (by omega)]
  rfl
 have HJ:=Zh hJ
 clear hJ hchk hE hd hR hda
 have HL:=Zh (zEh HP.out)
 obtain ⟨R,hRr⟩:∃R,R=zAM n s:=⟨_,rfl⟩
 rw[←hRr] at r1 r2 r3 HJ HL
 have HRr:=Zh hRr
 clear hRr
 go_enter Tryz.func116,Tryz.ntmps116
 go_wp2_with fail
 rw[←HW.out,←HB.out]
 refine (zAu _ _ _ _).mono ?_
 rintro e w1 ⟨rfl,hb1⟩
 rw[HP.out]
 have T1:=(zAD.refl w0).step hb1
 clear hb1
 go_wp2_with fail
 go_loopw[35] (fun i wr=>∃k:Nat,k≤ls.length∧i=.int .i64 k∧zAD w0.heap.size w0 wr∧zAw n o s (ls.take k) (ls.drop k)=0) (fun i _=>ls.length - (intOf i).toNat)
 case atStart=>exact ⟨0,by omega,rfl,T1,by simpa using HE.out⟩
 case round =>
  obtain ⟨k,hk,rfl,hS,hq⟩:=hrel
  have hdr:=hd0.stays hS.below
  clear T1
  by_cases hlt:k<ls.length
  ·obtain ⟨a',c',ee,_,_,hi⟩:=hdr.opened
   simp only[Value.slice.injEq] at ee
   obtain ⟨rfl,_,rfl⟩:=ee
   obtain ⟨b1,o1,v1,s1,e9,h1,h2,h3,h4,h5⟩:=hi k hlt
   cases e9
   rw[zAr h4] at hq
   have hone:zDy n o s s1.1 s1.2=0:=by
    unfold zAw at hq
    split at hq
    ·rename_i g;exact absurd hq g
    ·rename_i g;simpa using g
   have hhas:zII (ls.take k) s1.1=false:=by
    unfold zAw at hq
    rw[if_neg (by simpa using hone)] at hq
    split at hq
    ·simp at hq
    ·rename_i g;simpa using g
   have hnx:zAw n o s (ls.take (k+1)) (ls.drop (k+1))=0:=by
    unfold zAw at hq
    rw[if_neg (by simpa using hone),if_neg (by simpa using hhas)] at hq
    rw[List.take_add_one,h4]
    exact hq
   have HNX:=Zh hnx
   have HO:=Zh hone
   have HH:=Zh hhas
   clear h4 hi hq hnx hone hhas
   obtain ⟨a1,k1,rfl,_⟩:=h3.opened
   have S2:=hS.alloc (.cells #[.int .i64 s1.1,.slice a1 s1.2.length k1] 64)
   have hdr2:=hdr.stays (zAB wr (.cells #[.int .i64 s1.1,.slice a1 s1.2.length k1] 64))
   have h32:=h3.stays (zAB wr (.cells #[.int .i64 s1.1,.slice a1 s1.2.length k1] 64))
   have e0:=(S2.below.cell (p:=⟨B,0,none⟩) l0).trans c0
   have e1:=(S2.below.cell (p:=⟨B,1,none⟩) l0).trans c1
   have e2:=(S2.below.cell (p:=⟨B,2,none⟩) l0).trans c2
   have e3:(wr.alloc (.cells #[.int .i64 s1.1,.slice a1 s1.2.length k1] 64)).cell? ⟨wr.heap.size,0,none⟩=some (.int .i64 s1.1):=by go_simp
   have e4:(wr.alloc (.cells #[.int .i64 s1.1,.slice a1 s1.2.length k1] 64)).cell? ⟨wr.heap.size,1,none⟩=some (.slice a1 s1.2.length k1):=by go_simp
   have l3:=zAH e3
   have hdk:=hdr2.take k hk c (by omega) hcm hnone
   have hkc:k≤c:=by omega
   go_wp2_with fail
   refine (zI1 _ _ _ _ _ _ _ h32).mono ?_
   rintro e w3 ⟨rfl,hb3⟩
   rw[HO.out]
   have S3:=S2.step hb3
   have hdk3:=hdk.stays hb3
   have e33:=(hb3.cell (p:=⟨wr.heap.size,0,none⟩) l3).trans e3
   clear e0 e1 e2 e3 e4 h1 h2 hdr hdr2 hdk hb3
   go_wp2_with fail
   refine (zC9 _ _ _ _ _ hdk3 e33).mono ?_
   rintro e w4 ⟨rfl,hb4⟩
   rw[HH.out]
   have S4:=S3.step hb4
   go_wp2_with fail
   go_roundw
   case rel=>exact ⟨k+1,by omega,by go_num,S4,HNX.out⟩
   case measure=>simp[intOf];omega
  ·obtain rfl:k=ls.length:=by omega
   clear hq hlt hk
   have d0:=(hS.below.cell (p:=⟨B,0,none⟩) l0).trans c0
   have hnc:n≤c:=by omega
   have hln:decide (ls.length<n)=false:=by simp;omega
   obtain ⟨wo,hwo⟩:∃wo:World,wo=wr:=⟨_,rfl⟩
   rw[←hwo] at hS hdr d0 ⊢
   clear hwo
   go_wp2_with fail
   clear d0
   go_loopw[62,10] (fun i x wr=>∃k:Nat,k≤n∧i=.int .i64 k∧zAD w0.heap.size w0 wr∧zAJ wr 3 w0.heap.size x (xsL k ls)) (fun i _ _=>n - (intOf i).toNat)
   case atStart=>exact ⟨0,by omega,rfl,hS,zAJ.nil _ _ _⟩
   case round =>
    clear hS hdr
    obtain ⟨k,hk,rfl,hS,hx⟩:=hrel
    by_cases hlt:k<n
    ·obtain ⟨a',c',ee,_,_,hi⟩:=(hd0.stays hS.below).opened
     simp only[Value.slice.injEq] at ee
     obtain ⟨rfl,_,rfl⟩:=ee
     obtain ⟨b1,o1,v1,s1,e9,h1,h2,h3,h4,h5⟩:=hi k (by omega)
     cases e9
     have HX:=Zh (zOx h4)
     have hnum:I64 s1.1:=h5
     obtain ⟨i1,i2⟩:=h5
     clear h4 hi
     obtain ⟨a1,k1,rfl,_⟩:=h3.opened
     have S2:=hS.alloc (.cells #[.int .i64 s1.1,.slice a1 s1.2.length k1] 64)
     have e3:(wr.alloc (.cells #[.int .i64 s1.1,.slice a1 s1.2.length k1] 64)).cell? ⟨wr.heap.size,0,none⟩=some (.int .i64 s1.1):=by go_simp
     have hx2:=hx.stays (zAB wr (.cells #[.int .i64 s1.1,.slice a1 s1.2.length k1] 64))
     have hlx:(xsL k ls).length≤8:=by simp[xsL];omega
     have hgs:=hS.2
     go_wp2_with (at_builtin;refine zAc rfl _ _ 36 rfl 3 Tryz.underlying36 zBD w0.heap.size _ _ rfl (hx2.stays (zAB _ _)) ⟨wr.heap.size+1,0,none⟩ 1 s1.1 rfl (by go_simp) hnum (by omega) (by simp;omega) ?_;intro v' w4 hx4 hg4)
     go_roundw
     case rel =>
      exact ⟨k+1,by omega,by go_num,(S2.alloc _).own (hx2.stays (zAB _ _)) hg4,by rw[HX.out];exact hx4⟩
     case measure=>simp[intOf];omega
    ·obtain rfl:n=k:=by omega
     clear hlt hk
     have d0:=(hS.below.cell (p:=⟨B,0,none⟩) l0).trans c0
     have d1:=(hS.below.cell (p:=⟨B,1,none⟩) l0).trans c1
     have d2:=(hS.below.cell (p:=⟨B,2,none⟩) l0).trans c2
     go_wp2_with fail
     refine (zLP _ _ _ _).mono ?_
     rintro e w5 ⟨rfl,hb5⟩
     rw[HL.out]
     have S5:=hS.step hb5
     have hx5:=hx.stays hb5
     clear hS hx d0 d1 d2
     obtain ⟨g1,hg1⟩:∃g1,g1=w5.heap.size:=⟨_,rfl⟩
     have hxl:=fun j (hj:u10.ownBlock=some j)=>(hx5.1.lt j hj).2
     rw[←hg1] at hxl
     have hg1':g1≤w5.heap.size:=by omega
     have hg0:w0.heap.size≤g1:=by rw[hg1];exact S5.2
     clear hg1 hb5
     go_wp2_with fail
     go_loopw[74,13] (fun i dv wr=>∃r:Nat,r≤R∧i=.int .i64 r∧zAD w0.heap.size w0 wr∧g1≤wr.heap.size∧zAJ wr 3 w0.heap.size u10 (xsL n ls)∧zAJ wr 3 g1 dv (zCB n ls r)∧zEJ n ls r=false) (fun i _ _=>R - (intOf i).toNat)
     case atStart=>exact ⟨0,by omega,rfl,S5,hg1',hx5,zAJ.nil _ _ _,rfl⟩
     case round =>
      clear S5 hg1' hx5
      obtain ⟨r,hr,rfl,hS,hgw,hx,hdv,hto⟩:=hrel
      obtain ⟨wo,hwo⟩:∃wo:World,wo=wr:=⟨_,rfl⟩
      rw[←hwo] at hS hgw hx hdv ⊢
      clear hwo
      by_cases hlt:r<R
      ·have hPT:=Zh (zNq.2 (HR.out.pts r))
       have HTO:=Zh hto
       clear hto
       have d0:=(hS.below.cell (p:=⟨B,0,none⟩) l0).trans c0
       obtain ⟨gy,hgy⟩:∃gy,gy=wo.heap.size:=⟨_,rfl⟩
       have hdl:=fun j (hj:u13.ownBlock=some j)=>(hdv.1.lt j hj).2
       rw[←hgy] at hdl hgw
       have hgy':gy≤wo.heap.size:=by omega
       have hgs:=hS.2
       rw[←hgy] at hgs
       clear hgy
       go_wp2_with fail
       clear d0
       go_loopw[82,15] (fun i y wr=>∃k:Nat,k≤n∧i=.int .i64 k∧zAD w0.heap.size w0 wr∧gy≤wr.heap.size∧zAJ wr 3 w0.heap.size u10 (xsL n ls)∧zAJ wr 3 g1 u13 (zCB n ls r)∧zAJ wr 3 gy y (ysL k ls r)) (fun i _ _=>n - (intOf i).toNat)
       case atStart=>exact ⟨0,by omega,rfl,hS,hgy',hx,hdv,zAJ.nil _ _ _⟩
       case round =>
        clear hS hgy' hx hdv
        obtain ⟨k,hk,rfl,hS,hgw4,hx,hdv,hy⟩:=hrel
        by_cases hkn:k<n
        ·obtain ⟨a',c',ee,_,_,hi⟩:=(hd0.stays hS.below).opened
         simp only[Value.slice.injEq] at ee
         obtain ⟨rfl,_,rfl⟩:=ee
         obtain ⟨b1,o1,v1,s1,e9,h1,h2,h3,h4,h5⟩:=hi k (by omega)
         cases e9
         have HY:=Zh (zO9 r h4)
         have hvl:=HR.out.len s1 (List.mem_of_getElem? h4)
         rw[←HRr.out] at hvl
         have hvr:r<s1.2.length:=by omega
         clear h4 hi h5 hvl
         obtain ⟨a1,k1,rfl,_,⟨q1,_⟩,hz⟩:=h3.opened
         obtain ⟨b2,o2,z2,rfl,hz1,hz2,hz3⟩:=hz r (by omega)
         have HZ:=Zh (show s1.2.getD r 0=z2 by rw[List.getD_eq_getElem?_getD,hz2];rfl)
         clear hz hz2
         have S2:=hS.alloc (.cells #[.int .i64 s1.1,.slice (some ⟨b2,o2,none⟩) s1.2.length k1] 64)
         have bb:=zAB wr (.cells #[.int .i64 s1.1,.slice (some ⟨b2,o2,none⟩) s1.2.length k1] 64)
         have e4:(wr.alloc (.cells #[.int .i64 s1.1,.slice (some ⟨b2,o2,none⟩) s1.2.length k1] 64)).cell? ⟨wr.heap.size,1,none⟩=some (.slice (some ⟨b2,o2,none⟩) s1.2.length k1):=by go_simp
         have e5:=(bb.cell (p:=⟨b2,o2+r,none⟩) (zAH hz1)).trans hz1
         have hy2:=hy.stays bb
         have hx2:=hx.stays bb
         have hd2:=hdv.stays bb
         have hly:(ysL k ls r).length≤8:=by simp[ysL];omega
         have hyl:=fun j (hj:u15.ownBlock=some j)=>(hy.1.lt j hj).1
         obtain ⟨z20,z21⟩:=hz3
         go_wp2_with (at_builtin;refine zAc rfl _ _ 36 rfl 3 Tryz.underlying36 zBD gy _ _ rfl (hy2.stays (zAB _ _)) ⟨wr.heap.size+1,0,none⟩ 1 z2 rfl (by go_simp) ⟨z20,z21⟩ (by omega) (by simp;omega) ?_;intro v' w4 hy4 hg4)
         go_roundw
         case rel =>
          refine ⟨k+1,by omega,by go_num,(S2.alloc _).grown hg4 (fun j hj=>?_),Nat.le_trans (by simp;omega) hg4.size,(hx2.stays (zAB _ _)).kept hg4 ?_,(hd2.stays (zAB _ _)).kept hg4 ?_,by rw[HY.out,HZ.out];exact hy4⟩
          ·have:=hyl j hj;omega
          ·cases hb:u10.ownBlock with
           | none=>exact Or.inl rfl
           | some j=>right;intro e;have:=hxl j hb;have:=hyl j e.symm;omega
          ·cases hb:u13.ownBlock with
           | none=>exact Or.inl rfl
           | some j=>right;intro e;have:=hdl j hb;have:=hyl j e.symm;omega
         case measure=>simp[intOf];omega
        ·obtain rfl:n=k:=by omega
         clear hkn hk
         have d0:=(hS.below.cell (p:=⟨B,0,none⟩) l0).trans c0
         have hyl:=fun j (hj:u15.ownBlock=some j)=>(hy.1.lt j hj).1
         have hap:zDw u13 u15:=fun i j hi hj e=>by
          have:=hdl i hi
          have:=hyl j hj
          omega
         have hrn:r*n≤24*4:=Nat.mul_le_mul (by omega) (by omega)
         go_wp2_with fail
         clear d0
         go_loopw[97,13] (fun i dv wr=>∃k:Nat,k≤n∧i=.int .i64 k∧zAD w0.heap.size w0 wr∧gy≤wr.heap.size∧zAJ wr 3 w0.heap.size u10 (xsL n ls)∧zAJ wr 3 g1 dv (zCB n ls r++zLq n ls r k)∧zAJ wr 3 gy u15 (ysL n ls r)∧zDw dv u15) (fun i _ _=>n - (intOf i).toNat)
         case atStart=>exact ⟨0,by omega,rfl,hS,hgw4,hx,by simpa[zLq] using hdv,hy,hap⟩
         case round =>
          clear hS hgw4 hx hdv hy hap
          obtain ⟨k,hk,rfl,hS,hgw5,hx,hdv,hy,hap⟩:=hrel
          by_cases hkn:k<n
          ·go_wp2_with fail
           refine (zUi _ _ (xsL n ls) (ysL n ls r) k _ hx.isInts hy.isInts hPT.out (by omega) (by omega)).mono ?_
           rintro e w6 ⟨rfl,hb6⟩
           have S6:=hS.step hb6
           have hx6:=hx.stays hb6
           have hy6:=hy.stays hb6
           have hd6:=hdv.stays hb6
           have hgw6:=Nat.le_trans hgw5 hb6.size
           have hpb:=zEk (xsL n ls) (ysL n ls r) k
           have iz6:I64 (atV (xsL n ls) (ysL n ls r) k):=⟨by omega,by omega⟩
           have hlen6:(zCB n ls r++zLq n ls r k).length≤100:=by rw[List.length_append,zDH,zIO];omega
           have hd7:=fun o=>hd6.stays (zAB w6 o)
           have HD7:=Zh hd7
           clear hb6 hS hx hdv hd7 hy
           obtain ⟨du,hdu⟩:∃du,du=zCB n ls r++zLq n ls r k:=⟨_,rfl⟩
           rw[←hdu] at hlen6 hd6
           have HDU:=Zh hdu
           clear hdu
           go_wp2_with (at_builtin;refine zBC rfl _ _ 36 rfl 3 Tryz.underlying36 zBD g1 _ du rfl (hd6.stays (zAB w6 _)) ⟨w6.heap.size,0,none⟩ 1 (atV (xsL n ls) (ysL n ls r) k) rfl (by simp) iz6 (by omega) (by simp;omega) ?_;intro v' w7 ho7 hg7 hat7;obtain ⟨av,cv,rfl,_⟩:=ho7.isInts.opened)
           have hg8:=zVb (c:=u13) rfl hg7
           have hat8:=zVI (c:=u13) rfl hat7
           clear hg7 hat7
           have hy7:=hy6.stays (zAB w6 (.cells #[.int .i64 (atV (xsL n ls) (ysL n ls r) k)] 3))
           have hx7:=(hx6.stays (zAB w6 (.cells #[.int .i64 (atV (xsL n ls) (ysL n ls r) k)] 3))).kept hg8 (by
            cases hb:u10.ownBlock with
            | none=>exact Or.inl rfl
            | some j=>right;intro e;have:=hxl j hb;have:=(hd6.1.lt j e.symm).1;omega)
           have S7:=(S6.alloc (.cells #[.int .i64 (atV (xsL n ls) (ysL n ls r) k)] 3)).grown hg8 (fun j hj=>Nat.le_trans hg0 (hd6.1.lt j hj).1)
           have hy8:=hy7.kept hg8 hap.ne
           have hap8:=zDw.grown hap hat8 (fun j hj=>(hy7.1.lt j hj).2)
           rw[List.length_append] at ho7 hap8
           have ho8:zAJ w7 3 g1 (.slice av (du.length+1) cv) (zCB n ls r++zLq n ls r (k+1)):=by
            rw[zM9,←List.append_assoc,←HDU.out]
            exact ho7
           have hgw7:gy≤w7.heap.size:=Nat.le_trans hgw6 (Nat.le_trans (by simp) hg8.size)
           go_roundw
           case rel=>exact ⟨k+1,by omega,by go_num,S7,hgw7,hx7,ho8,hy8,hap8⟩
           case measure=>simp[intOf];omega
          ·obtain rfl:n=k:=by omega
           clear hkn hk hap
           rw[←zFu] at hdv
           have d0:=(hS.below.cell (p:=⟨B,0,none⟩) l0).trans c0
           have hgwr:g1≤wr.heap.size:=by omega
           have hx0:=hx
           obtain ⟨wq,hwq⟩:∃wq:World,wq=wr:=⟨_,rfl⟩
           rw[←hwq] at hS hgwr hx hdv hy d0 ⊢
           clear hwq hgw5 hx0
           by_cases hn:n<c
           ·skip
            go_wp2_with fail
            obtain ⟨m,hm⟩:∃m,m=ls.length - n:=⟨_,rfl⟩
            rw[←hm]
            have hm8:m≤8:=by omega
            have HM:=Zh hm
            clear hm d0
            go_loopw[120] (fun i wr=>∃k:Nat,k≤m∧i=.int .i64 k∧zAD w0.heap.size w0 wr∧g1≤wr.heap.size∧zAJ wr 3 w0.heap.size u10 (xsL n ls)∧zAJ wr 3 g1 u13 (zCB n ls (r+1))∧zAJ wr 3 gy u15 (ysL n ls r)∧(((ls.drop n).take k).any fun t=>decide (atV (xsL n ls) (ysL n ls r) t.1≠t.2.getD r 0))=false) (fun i _=>m - (intOf i).toNat)
            case atStart=>exact ⟨0,by omega,by go_num,hS,hgwr,hx,hdv,hy,by simp⟩
            case round =>
             clear hS hgwr hx hdv hy
             obtain ⟨k,hk,rfl,hS,hgw6,hx,hdv,hy,hq⟩:=hrel
             have HQ:=Zh hq
             clear hq
             by_cases hkl:k<m
             ·obtain ⟨a',c',ee,_,_,hi⟩:=((hd0.stays hS.below).from n hfew).opened
              simp only[Value.slice.injEq] at ee
              obtain ⟨rfl,_,rfl⟩:=ee
              obtain ⟨b1,o1,v1,s1,e9,h1,h2,h3,h4,h5⟩:=hi k (by have:=HM.out;simp;omega)
              cases e9
              have HTK:=Zh (show (ls.drop n).take (k+1)=(ls.drop n).take k++[s1] by rw[List.take_add_one,h4];rfl)
              have hms:s1∈ls:=List.mem_of_mem_drop (List.mem_of_getElem? h4)
              have HMS:=Zh (show s1∈ls.drop n from List.mem_of_getElem? h4)
              have hvl:=HR.out.len s1 hms
              rw[←HRr.out] at hvl
              have hvr:r<s1.2.length:=by omega
              obtain ⟨n10,n11⟩:=HR.out.num s1 hms
              clear hms
              clear h4 hi h5 hvl
              obtain ⟨a1,k1,rfl,_,⟨q1,_⟩,hz⟩:=h3.opened
              obtain ⟨b2,o2,z2,rfl,hz1,hz2,hz3⟩:=hz r (by omega)
              have HZ:=Zh (show s1.2.getD r 0=z2 by rw[List.getD_eq_getElem?_getD,hz2];rfl)
              clear hz hz2
              have S2:=hS.alloc (.cells #[.int .i64 s1.1,.slice (some ⟨b2,o2,none⟩) s1.2.length k1] 64)
              have bb:=zAB wr (.cells #[.int .i64 s1.1,.slice (some ⟨b2,o2,none⟩) s1.2.length k1] 64)
              have e3:(wr.alloc (.cells #[.int .i64 s1.1,.slice (some ⟨b2,o2,none⟩) s1.2.length k1] 64)).cell? ⟨wr.heap.size,0,none⟩=some (.int .i64 s1.1):=by go_simp
              have e4:(wr.alloc (.cells #[.int .i64 s1.1,.slice (some ⟨b2,o2,none⟩) s1.2.length k1] 64)).cell? ⟨wr.heap.size,1,none⟩=some (.slice (some ⟨b2,o2,none⟩) s1.2.length k1):=by go_simp
              have e5:=(bb.cell (p:=⟨b2,o2+r,none⟩) (zAH hz1)).trans hz1
              have hx2:=hx.stays bb
              have hy2:=hy.stays bb
              have hd2:=hdv.stays bb
              go_wp2_with fail
              refine (zUi _ _ (xsL n ls) (ysL n ls r) s1.1 _ hx2.isInts hy2.isInts hPT.out (by omega) (by omega)).mono ?_
              rintro e w6 ⟨rfl,hb6⟩
              have f4:=(hb6.cell (p:=⟨wr.heap.size,1,none⟩) (zAH e4)).trans e4
              have f5:=(hb6.cell (p:=⟨b2,o2+r,none⟩) (zAH e5)).trans e5
              have S6:=S2.step hb6
              clear e3 e4 e5 h1 h2 hz1
              by_cases hv:atV (xsL n ls) (ysL n ls r) s1.1=z2
              ·have hv1:(atV (xsL n ls) (ysL n ls r) s1.1 != z2)=false:=by simpa using hv
               have HV:=Zh hv
               clear hv
               go_wp2_with fail
               go_roundw
               case rel =>
                refine ⟨k+1,by omega,by go_num,S6,Nat.le_trans hgw6 (Nat.le_trans (by simp) hb6.size),hx2.stays hb6,hd2.stays hb6,hy2.stays hb6,?_⟩
                rw[HTK.out,List.any_append,HQ.out]
                simp only[List.any_cons,List.any_nil]
                rw[HV.out,HZ.out]
                simp
               case measure=>simp[intOf];omega
              ·have hv1:(atV (xsL n ls) (ysL n ls r) s1.1 != z2)=true:=by simpa using hv
               have h9:zBx n o s ls=9:=by
                rw[HJ.out,if_pos (zRD (r:=r) ?_ hlt)]
                simp only[zJt,List.any_eq_true]
                exact ⟨s1,HMS.out,by rw[HZ.out];simpa using hv⟩
               have H9:=Zh h9
               clear h9 hv
               go_wp2_with fail
               go_ret2
               rw[zJc (by rw[H9.out];omega),H9.out]
               exact ⟨⟨_,rfl,zAG.nil _⟩,(S0.step S6.below).below⟩
             ·have hto:zJt n ls r=false:=by
               have:=HQ.out
               rw[List.take_of_length_le (by have:=HM.out;simp;omega)] at this
               exact this
              have HT2:=Zh hto
              clear hto
              go_wp2_with fail
              go_roundw
              case rel=>exact ⟨r+1,by omega,by go_num,hS,hgw6,hx,hdv,by rw[zJH,HTO.out,HT2.out];rfl⟩
              case measure=>simp[intOf];omega
           ·obtain rfl:n=c:=by omega
            go_wp2_with fail
            clear d0
            go_loopw[120] (fun i wr=>∃k:Nat,k≤ls.length - n∧i=.int .i64 k∧zAD w0.heap.size w0 wr∧g1≤wr.heap.size∧zAJ wr 3 w0.heap.size u10 (xsL n ls)∧zAJ wr 3 g1 u13 (zCB n ls (r+1))∧zAJ wr 3 gy u15 (ysL n ls r)∧(((ls.drop n).take k).any fun t=>decide (atV (xsL n ls) (ysL n ls r) t.1≠t.2.getD r 0))=false) (fun i _=>ls.length - n - (intOf i).toNat)
            case atStart=>exact ⟨0,by omega,by go_num,hS,hgwr,hx,hdv,hy,by simp⟩
            case round =>
             clear hS hgwr hx hdv hy
             obtain ⟨k,hk,rfl,hS,hgw6,hx,hdv,hy,hq⟩:=hrel
             have HQ:=Zh hq
             clear hq
             by_cases hkl:k<ls.length - n
             ·omega
             ·have hto:zJt n ls r=false:=by
               have:=HQ.out
               rw[List.take_of_length_le (by simp;omega)] at this
               exact this
              have HT2:=Zh hto
              clear hto
              go_wp2_with fail
              go_roundw
              case rel=>exact ⟨r+1,by omega,by go_num,hS,hgw6,hx,hdv,by rw[zJH,HTO.out,HT2.out];rfl⟩
              case measure=>simp[intOf];omega
      ·obtain rfl:R=r:=by omega
       clear hlt hr
       have hj:zBx n o s ls=if zBl ((zCB n ls R).drop s) then 9 else 0:=by
        rw[HJ.out,if_neg (by rw[hto];simp)]
       have HJ2:=Zh hj
       have hD2:zPu n s ls=(zCB n ls R).take s:=by unfold zPu;rw[←HRr.out]
       have HD2:=Zh hD2
       have hDl:=zDH n ls R
       obtain ⟨D,hD⟩:∃D,D=zCB n ls R:=⟨_,rfl⟩
       rw[←hD] at hdv hDl HJ2 HD2
       clear hD hj hD2 hto
       have hsD:s≤D.length:=by omega
       have hDb:D.length≤28:=by omega
       clear hDl
       obtain ⟨a5,c5,rfl,hc5,⟨_,hcm5,_⟩,hdz⟩:=hdv.isInts.opened
       obtain ⟨b5,o5,_,rfl,_⟩:=hdz 0 (by omega)
       clear hdz
       have d2:=(hS.below.cell (p:=⟨B,2,none⟩) l0).trans c2
       have htk:=hdv.isInts.take s hsD
       by_cases hsc:s<c5
       ·have hfr:=hdv.isInts.from s hsD
        go_wp2_with fail
        refine (zFE _ (D.drop s) _ hfr).mono ?_
        rintro e w7 ⟨rfl,hb7⟩
        have S7:=hS.step hb7
        have d27:=(hb7.cell (p:=⟨B,2,none⟩) (zAH d2)).trans d2
        have ht7:=htk.stays hb7
        obtain ⟨X,hX⟩:∃X,X=zBl (D.drop s):=⟨_,rfl⟩
        rw[←hX] at HJ2 ⊢
        clear hX
        cases X with
        | true =>
         go_wp2_with fail
         go_ret2
         have h9:zBx n o s ls=9:=by rw[HJ2.out];rfl
         rw[zJc (by rw[h9];omega),h9]
         exact ⟨⟨_,rfl,zAG.nil _⟩,(S0.step S7.below).below⟩
        | false =>
         go_wp2_with fail
         go_ret2
         have h0:zBx n o s ls=0:=by rw[HJ2.out];rfl
         rw[zF2 h0,h0,HD2.out]
         exact ⟨⟨_,rfl,ht7⟩,(S0.step S7.below).below⟩
       ·obtain rfl:s=c5:=by omega
        have hfr:zAG wo (.slice (some ⟨b5,o5,none⟩) 0 0) []:=⟨some ⟨b5,o5,none⟩,0,rfl,Nat.le_refl _,⟨by simp,by omega,(fun e=>by cases e),Zok.nil⟩,fun i hi=>by simp at hi⟩
        have hds:D.drop s=[]:=List.drop_eq_nil_of_le (by omega)
        rw[hds] at HJ2
        have hD5:D.length=s:=by omega
        clear hds
        go_wp2_with fail
        refine (zFE _ [] _ hfr).mono ?_
        rintro e w7 ⟨rfl,hb7⟩
        have S7:=hS.step hb7
        have d27:=(hb7.cell (p:=⟨B,2,none⟩) (zAH d2)).trans d2
        have ht7:=htk.stays hb7
        have hnn:zBl []=false:=rfl
        rw[hnn] at HJ2 ⊢
        clear hnn hfr
        go_wp2_with fail
        go_ret2
        have h0:zBx n o s ls=0:=by rw[HJ2.out];rfl
        rw[zF2 h0,h0,HD2.out]
        exact ⟨⟨_,rfl,ht7⟩,(S0.step S7.below).below⟩
def zVS(W:World)(z:Tb)(n o s:Nat)(al:Option Addr)(cl:Nat)(ls:List Sh)(i:Nat):Prop:=
 ∀(x:Int),x=(i:Int)→∀(pk:List Sh) (vp:Value) (w:World) (st:Vs),pk.length≤n→pk.Sublist (ls.take i)→zAK 2 (RAt W zBA) z.E w 64 W.heap.size vp pk→zAD W.heap.size W w→zSW z n o s al ls.length cl w→zLv z w st →
  Calls Tryz.prog 117 #[.int .i64 x,vp,.pointer (some ⟨z.p,0,none⟩),.pointer (some ⟨z.l,0,none⟩),.pointer (some ⟨z.w,0,none⟩),.pointer (some ⟨z.b,0,none⟩),.pointer (some ⟨z.t,0,none⟩)] w fun e w' =>
   e=.returned (.tuple #[])∧zAD W.heap.size W w'∧zAF z.E w w'∧zLv z w' (zUS n (zCx n o s ls) pk (ls.drop i) st)
theorem zE7{w:World}{g:Nat}{v:Value}{T:TypeId}(h:w.heap[g]?=some (.cells #[v] T (0,0))):w.cell? ⟨g,0,none⟩=some v:=by simp[World.cell?,h]
theorem zLL{w:World}{g:Nat}{v:Value}{T:TypeId}(h:w.heap[g]?=some (.cells #[v] T (0,0))):w.frozen? ⟨g,0,none⟩=false:=by simp[World.frozen?,h]
set_option maxRecDepth 100000 in
theorem zPE(W:World)(z:Tb)(hz:z.ok W.heap.size)(n o s:Nat)(al:Option Addr)(cl:Nat)(ls:List Sh)(hL:zAN W (.slice al ls.length cl) ls)(hR:zBe n o s ls)(i:Nat)
  (pk:List Sh) (vp:Value) (w:World) (st:Vs) (hpn:pk.length=n) (hpk:pk.Sublist (ls.take i)) (hp:zAK 2 (RAt W zBA) z.E w 64 W.heap.size vp pk) (hS:zAD W.heap.size W w) (hC:zSW z n o s al ls.length cl w) (hB:zLv z w st) :
  Calls Tryz.prog 117 #[.int .i64 (i:Int),vp,.pointer (some ⟨z.p,0,none⟩),.pointer (some ⟨z.l,0,none⟩),.pointer (some ⟨z.w,0,none⟩),.pointer (some ⟨z.b,0,none⟩),.pointer (some ⟨z.t,0,none⟩)] w fun e w' =>
   e=.returned (.tuple #[])∧zAD W.heap.size W w'∧zAF z.E w w'∧zLv z w' (zCx n o s ls pk st):=by
 have hRp:=hR.sub (hpk.trans (List.take_sublist _ _)) (by omega)
 have HRP:=Zh hRp
 have HR:=Zh hR
 have HZ:=Zh hz
 have hq:((pk.length:Int) == (n:Int))=true:=by simp[hpn]
 have HPS:=Zh (zA6 (hp.isRow.ofAt zBA.stays (zAF.old hS.below _)))
 have HLS:=Zh (zAs hL hS.below)
 obtain ⟨a,c,rfl,_⟩:=hp.isRow.opened
 have HC:=Zh hC
 have HB:=Zh hB
 have hll:=hR.many
 obtain ⟨c0,c1,c2,c3,_⟩:=hC
 obtain ⟨aw,cw,ab,nb,cb,g1,_⟩:=hB
 have g3:=zE7 g1
 have HCV:=Zh (show zCx n o s ls pk st=if zBx n o s pk≠0 then st else if st.2.length<(zEb (ofD n (zAM n s) (zCI n o s pk)) 0 ls).length then (zCI n o s pk,zEb (ofD n (zAM n s) (zCI n o s pk)) 0 ls) else st from rfl)
 clear hRp hR hz hpn hpk hp hL g1
 go_enter Tryz.func117,Tryz.ntmps117
 go_upto_region 2 with (go_at_call 116;refine (zRk n o s _ pk _ HPS.out HRP.out HRP.out.check).mono ?_;rintro e w1 ⟨⟨v1,rfl,hi1⟩,hb1⟩)
 have q1:=(zAD.refl w).step hb1
 have d0:=zAA q1.below c0
 have d1:=zAA q1.below c1
 have d2:=zAA q1.below c2
 have d3:=zAA q1.below c3
 have e3:=zAA q1.below g3
 have HI1:=Zh hi1
 obtain ⟨a1,k1,rfl,_⟩:=hi1.opened
 clear c0 c1 c2 c3 g3 hb1 hi1
 by_cases hj:zBx n o s pk=0
 ·have HJ:=Zh (zHT HRP.out hj)
  have HJ0:=Zh hj
  rw[hj]
  clear hj
  generalize hD:zCI n o s pk=D at *
  have HD:=Zh hD
  clear hD
  go_upto_region 4 with (go_at_call 118;refine (zUa n o s _ _ D ls _ HI1.out (zAs HLS.out q1.below) HJ.out HR.out.num hll).mono ?_;rintro e w2 ⟨⟨v2,rfl,ho2⟩,hb2⟩)
  have q2:=q1.step hb2
  have f3:=zAA hb2 e3
  have HI2:=Zh (HI1.out.stays hb2)
  have HO2:=Zh ho2.isInts
  obtain ⟨a2,k2,rfl,_⟩:=ho2.isInts.opened
  clear d0 d1 d2 d3 e3 hb2 ho2
  generalize hF:zEb (ofD n (zAM n s) D) 0 ls=F at *
  have HF:=Zh hF
  clear hF
  have HB2:=Zh (HB.out.stays q2.below)
  have HCZ:Hid (zCx n o s ls pk st=if st.2.length<F.length then (D,F) else st):=Zh (by rw[HCV.out,if_neg (by simpa using HJ0.out)])
  by_cases hlt:st.2.length<F.length
  ·obtain ⟨aw',cw',ab',nb',cb',k1',k2',_⟩:=HB2.out
   have m1:=zLL k1'
   have m2:=zLL k2'
   have m3:=zE7 k1'
   have m4:=zE7 k2'
   have hne:F≠[]:=by intro e;subst e;simp at hlt
   have HV:=Zh (HB2.out.vote HZ.out HI2.out HO2.out hne)
   have HCY:Hid (zCx n o s ls pk st=(D,F)):=Zh (by rw[HCZ.out,if_pos hlt])
   have hgt:(st.2.length:Int)<(F.length:Int):=by omega
   have S4:=((hS.step q2.below).setCell (a:=⟨z.b,0,none⟩) HZ.out.2.2.2.2.2.2.2.2 (.slice a1 D.length k1)).setCell (a:=⟨z.w,0,none⟩) HZ.out.2.2.2.2.2.2.2.1 (.slice a2 F.length k2)
   have m5:(w2.setCell ⟨z.b,0,none⟩ (.slice a1 D.length k1)).frozen? ⟨z.w,0,none⟩=false:=(zA1 _ _ _ _ HZ.out.2.2.2.2.2.2.1).trans m1
   have m6:(w2.setCell ⟨z.b,0,none⟩ (.slice a1 D.length k1)).cell? ⟨z.w,0,none⟩=_:=(zAI _ _ _ _ HZ.out.2.2.2.2.2.2.1).trans m3
   clear k1' k2' hne hlt
   go_wp2_with fail
   refine bodyPost_ret (results_none rfl _ _ _) rfl ?_
   exact ⟨rfl,S4,(zAF.old q2.below _).trans HV.out.2,by rw[HCY.out];exact HV.out.1⟩
  ·have HCY:Hid (zCx n o s ls pk st=st):=Zh (by rw[HCZ.out,if_neg hlt])
   have hgt:¬(st.2.length:Int)<(F.length:Int):=by omega
   clear hlt
   go_wp2_with fail
   refine bodyPost_ret (results_none rfl _ _ _) rfl ?_
   exact ⟨rfl,hS.step q2.below,zAF.old q2.below _,by rw[HCY.out];exact HB2.out⟩
 ·have hne:(zBx n o s pk != 0)=true:=by simpa using hj
  have HCY:Hid (zCx n o s ls pk st=st):=Zh (by rw[HCV.out,if_pos hj])
  clear hj
  go_wp2_with fail
  refine bodyPost_ret (results_none rfl _ _ _) rfl ?_
  exact ⟨rfl,hS.step q1.below,zAF.old q1.below _,by rw[HCY.out];exact HB.out.stays q1.below⟩
set_option maxRecDepth 100000 in
theorem zPP(W:World)(z:Tb)(hz:z.ok W.heap.size)(n o s:Nat)(al:Option Addr)(cl:Nat)(ls:List Sh)(hL:zAN W (.slice al ls.length cl) ls)(hR:zBe n o s ls)(i:Nat)(hi:i≤ls.length)
  (IH:∀j,i<j→j≤ls.length→zVS W z n o s al cl ls j)
  (pk:List Sh) (vp:Value) (w:World) (st:Vs) (hpn:pk.length<n) (hpk:pk.Sublist (ls.take i)) (hp:zAK 2 (RAt W zBA) z.E w 64 W.heap.size vp pk) (hS:zAD W.heap.size W w) (hC:zSW z n o s al ls.length cl w) (hB:zLv z w st) :
  Calls Tryz.prog 117 #[.int .i64 (i:Int),vp,.pointer (some ⟨z.p,0,none⟩),.pointer (some ⟨z.l,0,none⟩),.pointer (some ⟨z.w,0,none⟩),.pointer (some ⟨z.b,0,none⟩),.pointer (some ⟨z.t,0,none⟩)] w fun e w' =>
   e=.returned (.tuple #[])∧zAD W.heap.size W w'∧zAF z.E w w'∧zLv z w' (zPS n (zCx n o s ls) pk (ls.drop i) st):=by
 have hq:((pk.length:Int) == (n:Int))=false:=by simp;omega
 have HQN:=Zh hpn
 have HPK:=Zh hpk
 have HZ:=Zh hz
 have HL:=Zh hL
 have HC:=Zh hC
 have HIH:=Zh IH
 have HR:=Zh hR
 have hll:=hR.many
 obtain ⟨a,c,rfl,_⟩:=hp.isRow.opened
 have HP:=Zh hp
 have hpl:pk.length≤8:=by have:=hpk.length_le;simp at this;omega
 obtain ⟨c0,c1,c2,c3,c4⟩:=hC
 clear hpn hpk hz hL hR IH hp c1 c2
 go_enter Tryz.func117,Tryz.ntmps117
 go_wp2_with fail
 go_loopw[12] (fun x wr=>∃k:Nat,∃st',i≤k∧k≤ls.length∧x=.int .i64 k∧zAD W.heap.size W wr∧zAF z.E w wr∧zLv z wr st'∧zPS n (zCx n o s ls) pk (ls.drop k) st'=zPS n (zCx n o s ls) pk (ls.drop i) st) (fun x _=>ls.length - (intOf x).toNat)
 case atStart=>exact ⟨i,st,Nat.le_refl _,hi,rfl,hS,zAF.refl _ _,hB,rfl⟩
 case round =>
  obtain ⟨k,st',hik,hk,rfl,hS',hD',hB',hQ⟩:=hrel
  have HQ:=Zh hQ
  have hC':=HC.out.dirty HZ.out hD'
  have HC':=Zh hC'
  have HB':=Zh hB'
  obtain ⟨_,_,_,d3,d4⟩:=hC'
  unfold Tb.caps at d4
  clear hQ hB' c0 c3 c4
  by_cases hlt:k<ls.length
  ·have hx:ls[k]?=some ls[k]:=List.getElem?_eq_getElem hlt
   obtain ⟨b,off,u,cu,rfl,k0,k1,hiv,hi1⟩:=zBZ HL.out hx
   have HDR:=Zh (zAr hx)
   have HTK:=Zh (zAv hx)
   generalize ls[k]=t at *
   have e0:=zAA hS'.below k0
   have e1:=zAA hS'.below k1
   have HRT:Hid (zBA W [.int .i64 t.1,.slice u t.2.length cu] t):=Zh ⟨_,rfl,hiv,hi1⟩
   have hp':=HP.out.later hD' (hB.off HP.out)
   have HO:=Zh (hp'.isRow.drew RAt.stays)
   have hbl:=zAH k0
   have hbE:¬z.E b:=fun h=>by
    have h8:=HZ.out.2.2.2.2.2.2.2
    simp only at hbl
    rcases h with h|h<;>omega
   have HS:Hid (∀w',zAF z.E wr w'→w'.cell? ⟨z.t,0,none⟩=some (.func (.func 117) #[] #[.pointer (some ⟨z.p,0,none⟩),.pointer (some ⟨z.l,0,none⟩),.pointer (some ⟨z.w,0,none⟩),.pointer (some ⟨z.b,0,none⟩),.pointer (some ⟨z.t,0,none⟩)])∧w'.cell? ⟨z.l,0,none⟩=some (.slice (some ⟨b,off,none⟩) ls.length cl)∧w'.cell? ⟨b,off+k*2,none⟩=some (.int .i64 t.1)∧w'.cell? ⟨b,off+k*2+1,none⟩=some (.slice u t.2.length cu)):=Zh (fun w' q=>by
    obtain ⟨_,_,_,f3,f4⟩:=HC'.out.dirty HZ.out q
    unfold Tb.caps at f4
    exact ⟨f4,f3,q.cell e0 hbE,q.cell e1 hbE⟩)
   have r0:=(zAD.refl wr).drew
   have s3:=HS.out wr.drew (zAF.old r0.below _)
   have s4:=HS.out _ (zAF.old (r0.alloc (.cells #[.int .i64 t.1,.slice u t.2.length cu] 64)).below _)
   have hWr:=hS'.2
   have HWR:Hid (IntKind.i64.wrap ((k:Int)+1)=((k+1:Nat):Int)):=Zh (by rw[IntWalk.i64_in _ (by omega)];omega)
   clear hx k0 k1 e0 e1 d4 hiv hp'
   go_upto_region 9 with fail
   clear d3
   go_region_held3 (fun w'=>w'.cell? ⟨z.t,0,none⟩=some (.func (.func 117) #[] #[.pointer (some ⟨z.p,0,none⟩),.pointer (some ⟨z.l,0,none⟩),.pointer (some ⟨z.w,0,none⟩),.pointer (some ⟨z.b,0,none⟩),.pointer (some ⟨z.t,0,none⟩)])∧w'.cell? ⟨z.l,0,none⟩=some (.slice (some ⟨b,off,none⟩) ls.length cl)∧w'.cell? ⟨b,off+k*2,none⟩=some (.int .i64 t.1)∧w'.cell? ⟨b,off+k*2+1,none⟩=some (.slice u t.2.length cu)) (first | exact s3 | exact s4 | exact s5 | exact s7 | exact s6 | exact s8) (first
    | (go_simp;go_at_call 119;go_fit (zDe RAt.stays (RAt.one zBA.one) _ pk wr.drew wr.drew (zAF.refl _ _) HO.out (by omega));rintro e w5 ⟨⟨v5,rfl,ho5⟩,hb5⟩;have p5:=r0.step hb5;have s5:=HS.out w5 (zAF.old p5.below _);have s7:=HS.out _ (zAF.old (p5.alloc (.cells #[.int .i64 t.1,.slice u t.2.length cu] 64)).below _);have ho55:zAK 2 (RAt W zBA) z.E w5 64 wr.heap.size v5 pk:=(ho5.mono (by simp)).anyE;have fO:=zBp w5 [.int .i64 t.1,.slice u t.2.length cu] 64 _ rfl)
    | (go_simp;go_at_call 119;go_fit (zDe RAt.stays (RAt.one zBA.one) _ pk wr.drew (wr.drew.alloc (.cells #[.int .i64 t.1,.slice u t.2.length cu] 64)) (zAF.old (zAB _ _) _) HO.out (by omega));rintro e w5 ⟨⟨v5,rfl,ho5⟩,hb5⟩;have p5:=(r0.alloc (.cells #[.int .i64 t.1,.slice u t.2.length cu] 64)).step hb5;have s5:=HS.out w5 (zAF.old p5.below _);have ho55:zAK 2 (RAt W zBA) z.E w5 64 wr.heap.size v5 pk:=(ho5.mono (by simp)).anyE;have fO:∀j u',([.int .i64 t.1,.slice u t.2.length cu]:List Value)[j]?=some u'→w5.cell? ((⟨wr.heap.size,0,none⟩:Addr).add j)=some u':=(fun j u' h=>zAA hb5 (zBp wr.drew [.int .i64 t.1,.slice u t.2.length cu] 64 _ rfl j u' h)))
    | (refine zCR rfl _ _ 83 rfl 2 z.E 64 Tryz.underlying83 _ 32 zDN rfl (by omega) (by omega) wr.heap.size v5 pk rfl (by first | exact ho55 | exact ho55.stays (zAB _ _)) _ _ [.int .i64 t.1,.slice u t.2.length cu] t rfl rfl (by intro x hx;simp at hx;rcases hx with rfl | rfl<;>rfl) fO (fun _ _=>HRT.out) (by omega) (by have:=p5.2;first | omega | (simp;omega)) ?_;intro v6 w6 ho6 hg6 hat6;have p6:zAD wr.heap.size wr w6:=(by first | exact p5.row ho55 hg6 | exact (p5.alloc _).row (ho55.stays (zAB _ _)) hg6);have s6:=HS.out w6 (zAF.old p6.below _))
    | (go_at_call 117;go_fit (HIH.out (k+1) (by omega) (by omega) (IntKind.i64.wrap ((k:Int)+1)) HWR.out (pk++[t]) _ w6 st' (by simp;have:=HQN.out;omega) (by rw[HTK.out];exact (HPK.out.trans (List.take_sublist_take_left hik)).append (List.Sublist.refl _)) (ho6.mono hWr) (hS'.step p6.below) (HC'.out.stays p6.below) (HB'.out.stays p6.below));rintro e w7 ⟨rfl,hS7,hD7,hB7⟩;have s8:=HS.out w7 ((zAF.old p6.below _).trans hD7)))
   all_goals
    have hD8:=hD'.trans ((zAF.old p6.below _).trans hD7)
    have HB7:=Zh hB7
    clear s3 s4 s5 s6 s8 fO ho55 ho5 ho6 hB7
    go_wp2_with fail
    go_roundw
    case rel=>exact ⟨k+1,_,by omega,by omega,by go_num,hS7,hD8,HB7.out,by rw[←HQ.out,HDR.out,zQm]⟩
    case measure=>simp[intOf];omega
  ·obtain rfl:ls.length=k:=by omega
   have HE:=Zh (show zPS n (zCx n o s ls) pk (ls.drop i) st=st' by rw[←HQ.out,List.drop_length];rfl)
   go_wp2_with fail
   go_end0
   exact ⟨rfl,hS',hD',by rw[HE.out];exact HB'.out⟩
set_option maxRecDepth 100000 in
theorem zQn(n o s:Int)(v:Value)(ls:List Sh)(W:World)(hd:zAN W v ls)(hp:zAx n o s≠0) :
  Calls Tryz.prog 116 #[.agg #[.int .i64 n,.int .i64 o,.int .i64 s],v] W fun e w'=>e=.returned (.tuple #[.slice none 0 0,.int .i64 (zAx n o s)])∧Below W.heap.size W w':=by
 obtain ⟨a,c,rfl,_⟩:=hd.opened
 have S0:=(zAD.refl W).alloc (.cells #[.int .i64 n,.int .i64 o,.int .i64 s] 49)
 have c0:(W.alloc (.cells #[.int .i64 n,.int .i64 o,.int .i64 s] 49)).cell? ⟨W.heap.size,0,none⟩=some (.int .i64 n):=by go_simp
 have c1:(W.alloc (.cells #[.int .i64 n,.int .i64 o,.int .i64 s] 49)).cell? ⟨W.heap.size,1,none⟩=some (.int .i64 o):=by go_simp
 have c2:(W.alloc (.cells #[.int .i64 n,.int .i64 o,.int .i64 s] 49)).cell? ⟨W.heap.size,2,none⟩=some (.int .i64 s):=by go_simp
 obtain ⟨w0,hw0⟩:∃w0,w0=W.alloc (.cells #[.int .i64 n,.int .i64 o,.int .i64 s] 49):=⟨_,rfl⟩
 rw[←hw0] at S0 c0 c1 c2
 have HW:=Zh hw0
 clear hw0
 obtain ⟨B,hB⟩:∃B,B=W.heap.size:=⟨_,rfl⟩
 rw[←hB] at c0 c1 c2
 have HB:=Zh hB
 clear hB
 have l0:=zAH c0
 have hne:(zAx n o s != 0)=true:=by simpa using hp
 clear hd
 go_enter Tryz.func116,Tryz.ntmps116
 go_wp2_with fail
 rw[←HW.out,←HB.out]
 refine (zAu _ _ _ _).mono ?_
 rintro e w1 ⟨rfl,hb1⟩
 have S1:=S0.step hb1
 clear c0 c1 c2
 go_wp2_with fail
 go_ret2
 exact ⟨rfl,S1.below⟩
set_option maxRecDepth 100000 in
theorem zQc(n o s:Int)(v:Value)(ls:List Sh)(W:World)(hd:zAN W v ls)(hp:zAx n o s=0)(hl:8<(ls.length:Int)) :
  Calls Tryz.prog 116 #[.agg #[.int .i64 n,.int .i64 o,.int .i64 s],v] W fun e w'=>e=.returned (.tuple #[.slice none 0 0,.int .i64 1])∧Below W.heap.size W w':=by
 obtain ⟨a,c,rfl,hcap,⟨hm,hcm,hnone⟩,_⟩:=hd.opened
 have S0:=(zAD.refl W).alloc (.cells #[.int .i64 n,.int .i64 o,.int .i64 s] 49)
 have c0:(W.alloc (.cells #[.int .i64 n,.int .i64 o,.int .i64 s] 49)).cell? ⟨W.heap.size,0,none⟩=some (.int .i64 n):=by go_simp
 have c1:(W.alloc (.cells #[.int .i64 n,.int .i64 o,.int .i64 s] 49)).cell? ⟨W.heap.size,1,none⟩=some (.int .i64 o):=by go_simp
 have c2:(W.alloc (.cells #[.int .i64 n,.int .i64 o,.int .i64 s] 49)).cell? ⟨W.heap.size,2,none⟩=some (.int .i64 s):=by go_simp
 obtain ⟨w0,hw0⟩:∃w0,w0=W.alloc (.cells #[.int .i64 n,.int .i64 o,.int .i64 s] 49):=⟨_,rfl⟩
 rw[←hw0] at S0 c0 c1 c2
 have HW:=Zh hw0
 clear hw0
 obtain ⟨B,hB⟩:∃B,B=W.heap.size:=⟨_,rfl⟩
 rw[←hB] at c0 c1 c2
 have HB:=Zh hB
 clear hB
 have l0:=zAH c0
 have HP:=Zh hp
 clear hp hd
 go_enter Tryz.func116,Tryz.ntmps116
 go_wp2_with fail
 rw[←HW.out,←HB.out]
 refine (zAu _ _ _ _).mono ?_
 rintro e w1 ⟨rfl,hb1⟩
 rw[HP.out]
 have S1:=S0.step hb1
 clear c0 c1 c2
 go_wp2_with fail
 go_ret2
 exact ⟨rfl,S1.below⟩
set_option maxRecDepth 100000 in
theorem zQK(n o s:Int)(v:Value)(ls:List Sh)(W:World)(hd:zAN W v ls)(hp:zAx n o s=0)(hl:ls.length≤8)(hE:zAw n o s [] ls=0)(hsh:(ls.length:Int)<n) :
  Calls Tryz.prog 116 #[.agg #[.int .i64 n,.int .i64 o,.int .i64 s],v] W fun e w'=>e=.returned (.tuple #[.slice none 0 0,.int .i64 7])∧Below W.heap.size W w':=by
 obtain ⟨a,c,rfl,hcap,⟨hm,hcm,hnone⟩,_⟩:=hd.opened
 have S0:=(zAD.refl W).alloc (.cells #[.int .i64 n,.int .i64 o,.int .i64 s] 49)
 have hd0:=hd.stays (zAB _ (.cells #[.int .i64 n,.int .i64 o,.int .i64 s] 49))
 have c0:(W.alloc (.cells #[.int .i64 n,.int .i64 o,.int .i64 s] 49)).cell? ⟨W.heap.size,0,none⟩=some (.int .i64 n):=by go_simp
 have c1:(W.alloc (.cells #[.int .i64 n,.int .i64 o,.int .i64 s] 49)).cell? ⟨W.heap.size,1,none⟩=some (.int .i64 o):=by go_simp
 have c2:(W.alloc (.cells #[.int .i64 n,.int .i64 o,.int .i64 s] 49)).cell? ⟨W.heap.size,2,none⟩=some (.int .i64 s):=by go_simp
 obtain ⟨w0,hw0⟩:∃w0,w0=W.alloc (.cells #[.int .i64 n,.int .i64 o,.int .i64 s] 49):=⟨_,rfl⟩
 rw[←hw0] at S0 hd0 c0 c1 c2
 have HW:=Zh hw0
 clear hw0
 obtain ⟨B,hB⟩:∃B,B=W.heap.size:=⟨_,rfl⟩
 rw[←hB] at c0 c1 c2
 have HB:=Zh hB
 clear hB
 have l0:=zAH c0
 have HP:=Zh hp
 have HE:=Zh hE
 clear hp hE hd
 go_enter Tryz.func116,Tryz.ntmps116
 go_wp2_with fail
 rw[←HW.out,←HB.out]
 refine (zAu _ _ _ _).mono ?_
 rintro e w1 ⟨rfl,hb1⟩
 rw[HP.out]
 have T1:=(zAD.refl w0).step hb1
 clear hb1
 go_wp2_with fail
 go_loopw[35] (fun i wr=>∃k:Nat,k≤ls.length∧i=.int .i64 k∧zAD w0.heap.size w0 wr∧zAw n o s (ls.take k) (ls.drop k)=0) (fun i _=>ls.length - (intOf i).toNat)
 case atStart=>exact ⟨0,by omega,rfl,T1,by simpa using HE.out⟩
 case round =>
  obtain ⟨k,hk,rfl,hS,hq⟩:=hrel
  have hdr:=hd0.stays hS.below
  clear T1
  by_cases hlt:k<ls.length
  ·obtain ⟨a',c',ee,_,_,hi⟩:=hdr.opened
   simp only[Value.slice.injEq] at ee
   obtain ⟨rfl,_,rfl⟩:=ee
   obtain ⟨b1,o1,v1,s1,rfl,h1,h2,h3,h4,h5⟩:=hi k hlt
   rw[zAr h4] at hq
   have hone:zDy n o s s1.1 s1.2=0:=by
    unfold zAw at hq
    split at hq
    ·rename_i g;exact absurd hq g
    ·rename_i g;simpa using g
   have hhas:zII (ls.take k) s1.1=false:=by
    unfold zAw at hq
    rw[if_neg (by simpa using hone)] at hq
    split at hq
    ·simp at hq
    ·rename_i g;simpa using g
   have hnx:zAw n o s (ls.take (k+1)) (ls.drop (k+1))=0:=by
    unfold zAw at hq
    rw[if_neg (by simpa using hone),if_neg (by simpa using hhas)] at hq
    rw[List.take_add_one,h4]
    exact hq
   have HNX:=Zh hnx
   have HO:=Zh hone
   have HH:=Zh hhas
   clear h4 hi hq hnx hone hhas
   obtain ⟨a1,k1,rfl,_⟩:=h3.opened
   have S2:=hS.alloc (.cells #[.int .i64 s1.1,.slice a1 s1.2.length k1] 64)
   have hdr2:=hdr.stays (zAB wr (.cells #[.int .i64 s1.1,.slice a1 s1.2.length k1] 64))
   have h32:=h3.stays (zAB wr (.cells #[.int .i64 s1.1,.slice a1 s1.2.length k1] 64))
   have e0:=(S2.below.cell (p:=⟨B,0,none⟩) l0).trans c0
   have e1:=(S2.below.cell (p:=⟨B,1,none⟩) l0).trans c1
   have e2:=(S2.below.cell (p:=⟨B,2,none⟩) l0).trans c2
   have e3:(wr.alloc (.cells #[.int .i64 s1.1,.slice a1 s1.2.length k1] 64)).cell? ⟨wr.heap.size,0,none⟩=some (.int .i64 s1.1):=by go_simp
   have e4:(wr.alloc (.cells #[.int .i64 s1.1,.slice a1 s1.2.length k1] 64)).cell? ⟨wr.heap.size,1,none⟩=some (.slice a1 s1.2.length k1):=by go_simp
   have l3:=zAH e3
   have hdk:=hdr2.take k hk c (by omega) hcm hnone
   have hkc:k≤c:=by omega
   go_wp2_with fail
   refine (zI1 _ _ _ _ _ _ _ h32).mono ?_
   rintro e w3 ⟨rfl,hb3⟩
   rw[HO.out]
   have S3:=S2.step hb3
   have hdk3:=hdk.stays hb3
   have e33:=(hb3.cell (p:=⟨wr.heap.size,0,none⟩) l3).trans e3
   clear e0 e1 e2 e3 e4 h1 h2 hdr hdr2 hdk hb3
   go_wp2_with fail
   refine (zC9 _ _ _ _ _ hdk3 e33).mono ?_
   rintro e w4 ⟨rfl,hb4⟩
   rw[HH.out]
   have S4:=S3.step hb4
   go_wp2_with fail
   go_roundw
   case rel=>exact ⟨k+1,by omega,by go_num,S4,HNX.out⟩
   case measure=>simp[intOf];omega
  ·obtain rfl:k=ls.length:=by omega
   clear hq hlt hk
   have d0:=(hS.below.cell (p:=⟨B,0,none⟩) l0).trans c0
   go_wp2_with fail
   go_ret2
   exact ⟨rfl,(S0.step hS.below).below⟩
theorem zTI(n o s:Int)(v:Value)(ls:List Sh)(W:World)(hd:zAN W v ls)(hx:zAb n o s ls≠0) :
  Calls Tryz.prog 116 #[.agg #[.int .i64 n,.int .i64 o,.int .i64 s],v] W fun e w'=>e=.returned (.tuple #[.slice none 0 0,.int .i64 (zAb n o s ls)])∧Below W.heap.size W w':=by
 by_cases h1:zAx n o s=0
 ·by_cases h2:8<(ls.length:Int)
  ·have e:zAb n o s ls=1:=by unfold zAb;rw[if_neg (by simpa using h1),if_pos h2]
   rw[e]
   exact zQc n o s v ls W hd h1 h2
  ·by_cases h3:zAw n o s [] ls=0
   ·by_cases h4:(ls.length:Int)<n
    ·have e:zAb n o s ls=7:=by unfold zAb;rw[if_neg (by simpa using h1),if_neg h2,if_neg (by simpa using h3),if_pos h4]
     rw[e]
     exact zQK n o s v ls W hd h1 (by omega) h3 h4
    ·exfalso
     apply hx
     unfold zAb
     rw[if_neg (by simpa using h1),if_neg h2,if_neg (by simpa using h3),if_neg h4]
   ·have e:zAb n o s ls=zAw n o s [] ls:=by unfold zAb;rw[if_neg (by simpa using h1),if_neg h2,if_pos h3]
    rw[e]
    exact zUM n o s v ls W hd h1 (by omega) h3
 ·have e:zAb n o s ls=zAx n o s:=by unfold zAb;rw[if_pos h1]
  rw[e]
  exact zQn n o s v ls W hd h1
end Go.Proofs.YthgmphbkkojaoaaGreat
