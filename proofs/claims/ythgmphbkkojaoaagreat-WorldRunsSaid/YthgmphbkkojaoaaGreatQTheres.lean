/-
  The reference's CheckMesh, version, There, walked. The reference's There, walked.
-/
import Derived.Test.YthgmphbkkojaoaaGreatQLaws
set_option maxHeartbeats 4000000
set_option linter.unusedSimpArgs false
namespace Go.Proofs.YthgmphbkkojaoaaGreat
set_option linter.unusedSectionVars false
variable [Zn]
open Go.RowKit
theorem zDv(vb:Value)(b:List Ver)(u:Value)(ps:List Pr)(W:World)(hb:zAR W vb b)(hu:zAT W u ps) :
  Calls Tryz.prog 7 #[.agg #[vb,u]] W fun e w'=>e=.returned (.int .i64 (zA2 (b,ps)))∧Below W.heap.size W w':=by
 obtain ⟨a,c,rfl,_⟩:=hb.opened
 obtain ⟨a',c',rfl,_⟩:=hu.opened
 have S0:=(zAD.refl W).alloc (.cells #[.slice a b.length c,.slice a' ps.length c'] 27)
 have hb0:=hb.stays zAz.stays S0.below
 have hu0:=hu.stays zAj.stays S0.below
 clear hb hu
 go_enter Tryz.func7,Tryz.ntmps7
 go_wp2_with (go_at_call 23;go_fit (zJv _ b _ ps _ hb0 hu0);rintro e w1 ⟨rfl,hb1⟩)
 go_ret
 exact ⟨rfl,(S0.step hb1).below⟩
set_option maxRecDepth 100000 in
theorem zEG(vb:Value)(b:List Ver)(u:Value)(ps:List Pr)(v:Int)(W:World)(hb:zAR W vb b)(hu:zAT W u ps) :
  Calls Tryz.prog 32 #[.agg #[vb,u],.int .i64 v] W fun e w'=>e=.returned (.int .i64 (zAh (b,ps) v))∧Below W.heap.size W w':=by
 obtain ⟨a,c,rfl,_⟩:=hb.opened
 obtain ⟨a',c',rfl,_⟩:=hu.opened
 have S0:=(zAD.refl W).alloc (.cells #[.slice a b.length c,.slice a' ps.length c'] 27)
 have hb0:=hb.stays zAz.stays S0.below
 have hu0:=hu.stays zAj.stays S0.below
 have c0:(W.alloc (.cells #[.slice a b.length c,.slice a' ps.length c'] 27)).cell? ⟨W.heap.size,0,none⟩=some (.slice a b.length c):=by go_simp
 have c1:(W.alloc (.cells #[.slice a b.length c,.slice a' ps.length c'] 27)).cell? ⟨W.heap.size,1,none⟩=some (.slice a' ps.length c'):=by go_simp
 clear hb hu
 go_enter Tryz.func32,Tryz.ntmps32
 go_upto_region 1 with fail
 generalize W.alloc (.cells #[.slice a b.length c,.slice a' ps.length c'] 27)=w0 at *
 obtain ⟨B,hB⟩:∃B,B=W.heap.size:=⟨_,rfl⟩
 rw[←hB] at c0 c1 ⊢
 clear hB
 have hE:Hid (zAh (b,ps) v=if zA2 (b,ps)≠0 then zA2 (b,ps) else if v<0∨(b.length:Int)≤v then 4 else 0):=Zh rfl
 go_upto_region 2 with (go_at_call 7;go_fit (zDv _ b _ ps _ hb0 hu0);rintro e w1 ⟨rfl,hb1⟩)
 have S1:=S0.step hb1
 have d0:=zAA hb1 c0
 clear c0 c1 hb1 hb0 hu0
 by_cases h0:zA2 (b,ps)=0
 ·rw[h0] at hE ⊢
  by_cases hm:v<0
  ·have H:Hid (zAh (b,ps) v=4):=Zh (by rw[hE.out];simp[hm])
   have hd:decide (v<0)=true:=by simpa using hm
   clear hE
   go_wp2_with (go_quiet (fail))
   go_ret
   exact ⟨zAL H.out.symm,by first | exact S1.below | exact (S1.step ((zAD.refl _).drew).below).below⟩
  ·have hd:decide (v<0)=false:=by simpa using hm
   by_cases h2:(b.length:Int)≤v
   ·have H:Hid (zAh (b,ps) v=4):=Zh (by rw[hE.out];simp[h2])
    have hd2:decide ((b.length:Int)≤v)=true:=by simpa using h2
    clear hE
    go_wp2_with (go_quiet (fail))
    go_ret
    exact ⟨zAL H.out.symm,S1.below⟩
   ·have H:Hid (zAh (b,ps) v=0):=Zh (by rw[hE.out];simp[hm,h2])
    have hd2:decide ((b.length:Int)≤v)=false:=by simpa using h2
    clear hE
    go_wp2_with (go_quiet (fail))
    go_ret
    exact ⟨zAL H.out.symm,S1.below⟩
 ·have H:Hid (zAh (b,ps) v=zA2 (b,ps)):=Zh (by rw[hE.out,if_pos h0])
  have hne:(zA2 (b,ps) != 0)=true:=by simpa using h0
  clear hE h0
  go_wp2_with fail
  go_ret
  exact ⟨zAL H.out.symm,S1.below⟩
def zCp(t:Bool)(v:Int)(l:List Sh)(x:Kp):List Sh:=if t=true∧x.1=v∧(l.any fun s=>decide (s.1=x.2.1))=false then l++[x.2] else l
theorem zHU{t:Bool}{v:Int}:∀{ks:List Kp} {l:List Sh},(t=true→∀x∈ks,x.1≠v)→ks.foldl (zCp t v) l=l
 | [],_,_=>rfl
 | x::ks,l,h=>by
  have e:zCp t v l x=l:=by
   unfold zCp
   rw[if_neg (fun hh=>h hh.1 x (by simp) hh.2.1)]
  rw[List.foldl_cons,e]
  exact zHU (fun ht y hy=>h ht y (by simp[hy]))
theorem zK2{t:Bool}{v r:Int}:∀{ks:List Kp} {l:List Sh},ks.Pairwise (fun x y=>x.1<y.1)→ks.foldl (zCp t v) l=zFL l (zAk v (t,r,ks))
 | [],l,_=>by cases t<;>rfl
 | x::ks,l,h=>by
  obtain ⟨h1,h2⟩:=List.pairwise_cons.1 h
  cases t with
  | false=>rw[zHU (fun h=>by cases h)];rfl
  | true =>
   by_cases hx:x.1=v
   ·rw[List.foldl_cons,zHU (fun _ y hy=>by have:=h1 y hy;omega)]
    have e:zAk v (true,r,x::ks)=some x.2:=by simp[zAk,zA9,hx]
    rw[e]
    unfold zCp zFL
    cases ha:(l.any fun s=>decide (s.1=x.2.1))<;>simp[hx,ha]
   ·have e1:zCp true v l x=l:=by
     unfold zCp
     rw[if_neg (fun hh=>hx hh.2.1)]
    rw[List.foldl_cons,e1,zK2 (r:=r) h2]
    congr 1
    simp[zAk,zA9,hx]
theorem zMo(t:Bool)(v:Int):∀(ks:List Kp) (l:List Sh),(ks.foldl (zCp t v) l).length≤l.length+ks.length
 | [],l=>by simp
 | x::ks,l=>by
  rw[List.foldl_cons]
  refine Nat.le_trans (zMo t v ks _) ?_
  have:(zCp t v l x).length≤l.length+1:=by unfold zCp;split<;>simp
  simp only[List.length_cons]
  omega
theorem zSe{b:List Ver}{p:Pr}(h:zBk b p){x:Kp}(hx:x∈p.2.2):0≤x.2.1∧x.2.1<8:=by
 obtain ⟨h1,h2,h3⟩:=h.each x hx
 obtain ⟨k,hk⟩:=Int.eq_ofNat_of_zero_le h1
 have hkl:k<b.length:=by omega
 have hg:b[k]?=some b[k]:=List.getElem?_eq_getElem hkl
 have hp:=zAg ((zBj.1 h.book).plan k _ hg)
 unfold zBt at h3
 have hpl:zAO b x.1=b[k].2:=by unfold zAO;rw[hk];simp[hg]
 rw[hpl] at h3
 obtain ⟨a1,a2,_⟩:=zEH h3
 omega
def zF4(w:World)(q:Nat)(l:List Sh):Prop:=∀j:Nat,j<8→w.cell? ⟨q,j,none⟩=some (.bool (l.any fun s=>decide (s.1=(j:Int))))∧w.frozen? ⟨q,j,none⟩=false
theorem zF4.stays{w w':World}{q:Nat}{l:List Sh}(h:zF4 w q l)(hb:Below w.heap.size w w'):zF4 w' q l:=fun j hj =>
 ⟨zAA hb (h j hj).1,zAE hb (h j hj).1 (h j hj).2⟩
theorem zF4.grown{w w':World}{q:Nat}{l:List Sh}{row:Option Nat}(h:zF4 w q l)(hg:w.grownBy w' row)(hne:row≠some q):zF4 w' q l:=fun j hj =>
 ⟨(zAF.of_grown hg).cell (h j hj).1 (fun e=>hne e),zAW hg (h j hj).1 (h j hj).2 (fun e=>hne e.symm)⟩
theorem zF4.lt{w:World}{q:Nat}{l:List Sh}(h:zF4 w q l):q<w.heap.size:=zAH (h 0 (by omega)).1
theorem zF4.set{w:World}{q m:Nat}{l:List Sh}{s:Sh}(h:zF4 w q l)(hm:m<8)(hs:s.1=(m:Int)):zF4 (w.setCell ⟨q,m,none⟩ (.bool true)) q (l++[s]):=fun j hj=>by
 refine ⟨?_,by rw[World.frozen?_setCell];exact (h j hj).2⟩
 by_cases hjm:j=m
 ·subst hjm
  rw[World.cell?_setCell_same _ _ _ (h j hj).1]
  simp[hs]
 ·rw[World.cell?_setCell_other _ _ _ _ (by intro e;simp only[Addr.mk.injEq] at e;exact hjm e.2.1.symm),(h j hj).1]
  have:¬((m:Int)=(j:Int)):=by omega
  simp[hs,this]
theorem zJf:(Tryz.prog.info? 64).map (fun i=>(i.zero,i.size,i.bytes))=some (some (.agg #[.int .i64 0,.slice none 0 0]),2,32):=by kernel_rfl
theorem zFS(w:World)(l:List Value)(T:TypeId)(n:Nat)(hn:n=w.heap.size):∀j u,l[j]?=some u→(w.alloc (.cells l.toArray T)).cell? ((⟨n,0,none⟩:Addr).add j)=some u:=by
 intro j u h
 subst hn
 rw[zA7]
 unfold World.cell? World.alloc
 simpa using h
theorem zKF{α β:Type}(f:α→β→α){l:List β}{k:Nat}{c:β}(h:l[k]?=some c)(a:α):(l.take (k+1)).foldl f a=f ((l.take k).foldl f a) c:=by
 rw[List.take_add_one,h]
 simp
theorem zQp{v:Int}{l:List Sh}{x:Kp}(hx:x.1=v)(ha:(l.any fun s=>decide (s.1=x.2.1))=false):zCp true v l x=l++[x.2]:=by
 unfold zCp
 rw[if_pos ⟨rfl,hx,ha⟩]
theorem zSq{t:Bool}{v:Int}{l:List Sh}{x:Kp}(h:¬(t=true∧x.1=v∧(l.any fun s=>decide (s.1=x.2.1))=false)):zCp t v l x=l:=by
 unfold zCp
 rw[if_neg h]
theorem zPO(w:World):zF4 (w.alloc (.cells #[.bool false,.bool false,.bool false,.bool false,.bool false,.bool false,.bool false,.bool false] 104)) w.heap.size []:=by
 intro j hj
 refine ⟨?_,by go_simp⟩
 have h:=zFS w [.bool false,.bool false,.bool false,.bool false,.bool false,.bool false,.bool false,.bool false] 104 w.heap.size rfl j (.bool false)
 rw[zA7] at h
 refine h ?_
 have:j=0∨j=1∨j=2∨j=3∨j=4∨j=5∨j=6∨j=7:=by omega
 rcases this with rfl|rfl|rfl|rfl|rfl|rfl|rfl|rfl<;>rfl
theorem zGO(v:Int):∀(ps:List Pr) (l:List Sh),(ps.foldl (fun l p=>zFL l (zAk v p)) l).length≤l.length+ps.length
 | [],l=>by simp
 | p::ps,l=>by
  rw[List.foldl_cons]
  have h1:=zGO v ps (zFL l (zAk v p))
  have h2:=zOz l (zAk v p)
  simp only[List.length_cons]
  omega
set_option maxRecDepth 100000 in
theorem zL1(vb u:Value)(b:List Ver)(ps:List Pr)(v:Int)(W:World)(hb:zAR W vb b)(hu:zAT W u ps)(hok:∀p∈ps,zBk b p)(hp8:ps.length≤8) :
  Calls Tryz.prog 41 #[.agg #[vb,u],.int .i64 v] W fun e w'=>(∃v',e=.returned v'∧zAN w' v' (zAS v ps))∧Below W.heap.size W w':=by
 obtain ⟨a,c,rfl,hcb,⟨hbm,hbc,_⟩,_⟩:=hb.opened
 obtain ⟨a',c',rfl,hcu,⟨hum,huc,_⟩,_⟩:=hu.opened
 have S0:=(zAD.refl W).alloc (.cells #[.slice a b.length c,.slice a' ps.length c'] 27)
 have hu0:=hu.stays zAj.stays S0.below
 have c1:(W.alloc (.cells #[.slice a b.length c,.slice a' ps.length c'] 27)).cell? ⟨W.heap.size,1,none⟩=some (.slice a' ps.length c'):=by go_simp
 have HOK:=Zh hok
 clear hb hu hok
 go_enter Tryz.func41,Tryz.ntmps41
 go_upto_region 2 with fail
 generalize W.alloc (.cells #[.slice a b.length c,.slice a' ps.length c'] 27)=w0 at *
 obtain ⟨B,hB⟩:∃B,B=W.heap.size:=⟨_,rfl⟩
 rw[←hB] at c1 ⊢
 clear hB
 have BS:=zAB w0 (.cells #[.bool false,.bool false,.bool false,.bool false,.bool false,.bool false,.bool false,.bool false] 104)
 have T1:=(zAD.refl w0).alloc (.cells #[.bool false,.bool false,.bool false,.bool false,.bool false,.bool false,.bool false,.bool false] 104)
 have d1:=zAA BS c1
 have hsaw0:=zPO w0
 have HU:Hid (∀w',zAD w0.heap.size w0 w'→zAT w' (.slice a' ps.length c') ps):=Zh (fun w' q=>hu0.stays zAj.stays q.below)
 clear hu0 BS c1
 go_upto_region 3 with fail
 generalize w0.alloc (.cells #[.bool false,.bool false,.bool false,.bool false,.bool false,.bool false,.bool false,.bool false] 104)=w1 at *
 obtain ⟨q,hq⟩:∃q,q=w0.heap.size:=⟨_,rfl⟩
 rw[←hq] at hsaw0 ⊢
 have HQ:=Zh hq
 clear hq
 go_wp2_with fail
 clear d1
 go_loopw[14,5] (fun i vl wr=>∃k:Nat,k≤ps.length∧i=.int .i64 k∧zAD w0.heap.size w0 wr∧zF4 wr q (zAS v (ps.take k))∧zAK 2 zBA (fun z=>z=q) wr 64 (q+1) vl (zAS v (ps.take k))) (fun i _ _=>ps.length - (intOf i).toNat)
 case atStart=>exact ⟨0,by omega,rfl,T1,hsaw0,zAK.nil _ _ _⟩
 case round =>
  clear hsaw0
  obtain ⟨k,hk,rfl,hS,hsaw,ho⟩:=hrel
  by_cases hlt:k<ps.length
  ·have hget:=List.getElem?_eq_getElem hlt
   obtain ⟨g,off,uu,cu,rfl,k0,k1,k2,hp,j1⟩:=zBq (HU.out w0 (zAD.refl w0)) hget
   have k0:=zAA hS.below k0
   have k1:=zAA hS.below k1
   have k2:=zAA hS.below k2
   have HST:=Zh (zH9 v hget)
   have HPO:=Zh (HOK.out _ (List.getElem_mem hlt))
   have hsl:(zAS v (ps.take k)).length≤8:=by
    have h1:=zGO v (ps.take k) []
    have h2:(ps.take k).length≤ps.length:=by rw[List.length_take];omega
    simp only[List.length_nil] at h1
    unfold zAS
    omega
   generalize hSK:zAS v (ps.take (k+1))=NX at *
   have HSK:=Zh hSK
   clear hSK
   generalize zAS v (ps.take k)=L at *
   generalize ps[k]=p at *
   obtain ⟨t,r,ks⟩:=p
   simp only at k0 k1 k2 hp j1
   have hks:ks.length≤20:=by have h1:=HPO.out.few;have h2:=HPO.out.room;simp only at h1 h2;omega
   have HTP:Hid (ks.foldl (zCp t v) L=NX):=Zh ((zK2 HPO.out.rise).trans HST.out.symm)
   have HP:Hid (∀w',zAD w0.heap.size w0 w'→zAl w' (.slice uu ks.length cu) ks):=Zh (fun w' h=>hp.stays zAf.stays h.below)
   have BB:=zAB wr (.cells #[.bool t,.int .i64 r,.slice uu ks.length cu] 62)
   have S4:=hS.alloc (.cells #[.bool t,.int .i64 r,.slice uu ks.length cu] 62)
   have f0:(wr.alloc (.cells #[.bool t,.int .i64 r,.slice uu ks.length cu] 62)).cell? ⟨wr.heap.size,0,none⟩=some (.bool t):=by go_simp
   have f2:(wr.alloc (.cells #[.bool t,.int .i64 r,.slice uu ks.length cu] 62)).cell? ⟨wr.heap.size,2,none⟩=some (.slice uu ks.length cu):=by go_simp
   have HSW:=Zh (hsaw.stays BB)
   have HO:=Zh (ho.stays BB)
   have hlt1:∀z,Value.ownBlock u5=some z→z≠wr.heap.size:=fun z h e=>by have:=(ho.lt z h).2;omega
   go_upto_region 6 with fail
   generalize wr.alloc (.cells #[.bool t,.int .i64 r,.slice uu ks.length cu] 62)=wa at *
   obtain ⟨Bp,hBp⟩:∃Bp,Bp=wr.heap.size:=⟨_,rfl⟩
   rw[←hBp] at f0 f2 hlt1 ⊢
   have hBq:q<Bp:=by rw[hBp];exact hsaw.lt
   clear hBp k0 k1 k2 hp ho hsaw HST BB
   have hBa:=zAH f0
   go_wp2_with fail
   clear f2
   go_loopw[21,5] (fun i vy wr=>∃j:Nat,j≤ks.length∧i=.int .i64 j∧zAD w0.heap.size w0 wr∧wr.cell? ⟨Bp,0,none⟩=some (.bool t)∧zF4 wr q ((ks.take j).foldl (zCp t v) L)∧zAK 2 zBA (fun z=>z=q) wr 64 (q+1) vy ((ks.take j).foldl (zCp t v) L)∧∀z,vy.ownBlock=some z→z≠Bp) (fun i _ _=>ks.length - (intOf i).toNat)
   case atStart=>exact ⟨0,by omega,rfl,S4,f0,HSW.out,HO.out,hlt1⟩
   case round =>
    clear f0 hlt1
    obtain ⟨j,hj,rfl,hS2,y0,hsaw2,ho2,hne2⟩:=hrel
    by_cases hlj:j<ks.length
    ·have hx:=List.getElem?_eq_getElem hlj
     obtain ⟨gk,ok,uk,ck,ek,x0,x1,x2,hxi,ix0,ix1⟩:=zCK (HP.out w0 (zAD.refl w0)) hx
     subst ek
     have x0:=zAA hS2.below x0
     have x1:=zAA hS2.below x1
     have x2:=zAA hS2.below x2
     have hblt:=hxi.block_lt
     have hxr:=hxi.stays hS2.below
     have hnum:=zSe HPO.out (List.mem_of_getElem? hx)
     have HFS:=Zh (zKF (zCp t v) hx L)
     have hll:((ks.take j).foldl (zCp t v) L).length≤28:=by
      have h1:=zMo t v (ks.take j) L
      have h2:(ks.take j).length≤ks.length:=by rw[List.length_take];omega
      omega
     obtain ⟨NL,hNL⟩:∃NL,NL=(ks.take (j+1)).foldl (zCp t v) L:=⟨_,rfl⟩
     rw[←hNL] at HFS
     have HNL:=Zh hNL
     clear hNL
     generalize (ks.take j).foldl (zCp t v) L=LL at *
     generalize ks[j]=x at *
     obtain ⟨xv,xn,xl⟩:=x
     simp only at x0 x1 x2 hxr hnum ix0 ix1 hblt
     obtain ⟨m,rfl⟩:=Int.eq_ofNat_of_zero_le hnum.1
     have hm8:m<8:=by omega
     have BB:=zAB wr (.cells #[.int .i64 xv,.int .i64 (m:Int),.slice uk xl.length ck] 66)
     have S3:=hS2.alloc (.cells #[.int .i64 xv,.int .i64 (m:Int),.slice uk xl.length ck] 66)
     have e0:(wr.alloc (.cells #[.int .i64 xv,.int .i64 (m:Int),.slice uk xl.length ck] 66)).cell? ⟨wr.heap.size,0,none⟩=some (.int .i64 xv):=by go_simp
     have e1:(wr.alloc (.cells #[.int .i64 xv,.int .i64 (m:Int),.slice uk xl.length ck] 66)).cell? ⟨wr.heap.size,1,none⟩=some (.int .i64 (m:Int)):=by go_simp
     have e2:(wr.alloc (.cells #[.int .i64 xv,.int .i64 (m:Int),.slice uk xl.length ck] 66)).cell? ⟨wr.heap.size,2,none⟩=some (.slice uk xl.length ck):=by go_simp
     have y0':=zAA BB y0
     have hsaw3:=hsaw2.stays BB
     have ho3:=ho2.stays BB
     have hxi3:=hxr.stays BB
     have hneK:∀z,Value.ownBlock u5=some z→z≠wr.heap.size:=fun z h e=>by have:=(ho2.lt z h).2;omega
     have hqK:q<wr.heap.size:=hsaw2.lt
     have hpK:Bp<wr.heap.size:=zAH y0
     go_upto_region 9 with fail
     clear x0 x1 x2 hx hxi hxr y0 hsaw2 ho2
     generalize wr.alloc (.cells #[.int .i64 xv,.int .i64 (m:Int),.slice uk xl.length ck] 66)=wb at *
     obtain ⟨Bk,hBk⟩:∃Bk,Bk=wr.heap.size:=⟨_,rfl⟩
     rw[←hBk] at e0 e1 e2 hneK hqK hpK ⊢
     clear hBk BB
     have s0:=(hsaw3 m hm8).1
     have s1:=(hsaw3 m hm8).2
     obtain ⟨A,hA⟩:∃A,A=LL.any fun s=>decide (s.1=(m:Int)):=⟨_,rfl⟩
     rw[←hA] at s0
     have HA:=Zh hA.symm
     clear hA
     by_cases hC:t=true∧xv=v∧A=false
     ·obtain ⟨rfl,rfl,rfl⟩:=hC
      have HY:=Zh (show NL=LL++[((m:Int),xl)] from HFS.out.trans (zQp (x:=(xv,(m:Int),xl)) rfl HA.out))
      have hsaw4:=hsaw3.set (s:=((m:Int),xl)) hm8 rfl
      have hdq:zAF (fun z=>z=q) wb (wb.setCell ⟨q,m,none⟩ (.bool true)):=(zAF.of_grown (zAC wb ⟨q,m,none⟩ (.bool true))).mono fun z _ hz=>by cases hz;rfl
      have ho4:=ho3.later hdq (fun z h e=>by have:=(ho3.lt z h).1;omega)
      have hxi4:∀w',zAF (fun z=>Value.ownBlock u5=some z∨z=q) (wb.setCell ⟨q,m,none⟩ (.bool true)) w'→zAG w' (.slice uk xl.length ck) xl:=fun w' hw'=>hxi3.framed (fun z hz hne=>by
       have h3:=hblt z hz hne
       have h4:=HQ.out
       rintro (h|h)
       ·have:=(ho3.lt z h).1;omega
       ·omega) ((hdq.mono fun z _ h=>Or.inr h).trans hw')
      have S5:=S3.setCell (a:=⟨q,m,none⟩) (by rw[HQ.out];exact Nat.le_refl _) (.bool true)
      have y1:(wb.setCell ⟨q,m,none⟩ (.bool true)).cell? ⟨Bp,0,none⟩=some (.bool true):=hdq.cell y0' (fun h=>by simp at h;omega)
      have e0':(wb.setCell ⟨q,m,none⟩ (.bool true)).cell? ⟨Bk,0,none⟩=some (.int .i64 xv):=hdq.cell e0 (fun h=>by simp at h;omega)
      have e1':(wb.setCell ⟨q,m,none⟩ (.bool true)).cell? ⟨Bk,1,none⟩=some (.int .i64 (m:Int)):=hdq.cell e1 (fun h=>by simp at h;omega)
      have e2':(wb.setCell ⟨q,m,none⟩ (.bool true)).cell? ⟨Bk,2,none⟩=some (.slice uk xl.length ck):=hdq.cell e2 (fun h=>by simp at h;omega)
      go_upto_region 11 with fail
      generalize wb.setCell ⟨q,m,none⟩ (.bool true)=wc at *
      clear s0 s1 hsaw3 ho3 y0' e0 e1 e2 hdq
      obtain ⟨ay,cy,rfl,_⟩:=ho4.isRow.opened
      have BC:=zAB wc (.cells #[.int .i64 (m:Int),.slice uk xl.length ck] 64)
      have HFR:Hid (zA3 (fun z=>(Value.slice ay LL.length cy).ownBlock=some z∨(fun z=>z=q) z) zBA (wc.alloc (.cells #[.int .i64 (m:Int),.slice uk xl.length ck] 64)) [.int .i64 (m:Int),.slice uk xl.length ck] ((m:Int),xl)):=Zh (fun w' hw'=>⟨_,rfl,hxi4 w' ((zAF.old BC _).trans hw'),⟨by omega,by omega⟩⟩)
      have hqc:q+1≤wc.heap.size:=hsaw4.lt
      have hpc:Bp<wc.heap.size:=zAH y1
      go_wp2_with (at_builtin;refine zAd rfl _ _ 83 rfl 2 (fun z=>z=q) 64 Tryz.underlying83 _ 32 zJf rfl (by omega) (by omega) (q+1) _ _ rfl (ho4.stays (zAB _ _)) ⟨wc.heap.size,0,none⟩ 1 [.int .i64 (m:Int),.slice uk xl.length ck] ((m:Int),xl) rfl rfl (by intro w hw;simp at hw;rcases hw with rfl | rfl<;>rfl) (zFS wc [.int .i64 (m:Int),.slice uk xl.length ck] 64 _ rfl) HFR.out (by omega) (by simp;omega) ?_;intro v6 w6 ho6 hg6 hat6)
      have S6:=(S5.alloc (.cells #[.int .i64 (m:Int),.slice uk xl.length ck] 64)).grown hg6 (fun z hz=>by have:=(ho4.lt z hz).1;have:=HQ.out;omega)
      have hsaw6:=(hsaw4.stays BC).grown hg6 (fun h=>by have:=(ho4.lt q h).1;omega)
      have y6:=(zAF.of_grown hg6).cell (zAA BC y1) (fun h=>hne2 _ h rfl)
      have hne6:∀z,v6.ownBlock=some z→z≠Bp:=fun z hz=>by
       rcases hat6 with h|h
       ·exact hne2 z (h.symm.trans hz)
       ·have h2:=h.symm.trans hz
        simp at h2
        omega
      have HX:=Zh (And.intro y6 (And.intro hsaw6 (And.intro ho6 hne6)))
      clear y6 hsaw6 ho6 hne6 hg6 hat6 hsaw4 ho4 hxi4 y1 e0' e1' e2' BC
      go_roundw
      case rel=>exact ⟨j+1,by omega,by go_num,S6,HX.out.1,by rw[←HNL.out,HY.out];exact HX.out.2.1,by rw[←HNL.out,HY.out];exact HX.out.2.2.1,HX.out.2.2.2⟩
      case measure=>simp[intOf];omega
     ·have HN:=Zh (show NL=LL from HFS.out.trans (zSq (x:=(xv,(m:Int),xl)) (fun h=>hC ⟨h.1,h.2.1,HA.out.symm.trans h.2.2⟩)))
      have HRES:=Zh (And.intro y0' (And.intro hsaw3 (And.intro ho3 hne2)))
      clear hsaw3 ho3 hne2
      cases t with
      | false =>
       go_wp2_with fail
       go_roundw
       case rel=>exact ⟨j+1,by omega,by go_num,S3,HRES.out.1,by rw[←HNL.out,HN.out];exact HRES.out.2.1,by rw[←HNL.out,HN.out];exact HRES.out.2.2.1,HRES.out.2.2.2⟩
       case measure=>simp[intOf];omega
      | true =>
       by_cases hxv:xv=v
       ·have hAt:A=true:=by
         cases A with
         | true=>rfl
         | false=>exact absurd ⟨rfl,hxv,rfl⟩ hC
        subst hAt
        have hxe:(xv == v)=true:=by simpa using hxv
        clear hC
        go_wp2_with fail
        go_roundw
        case rel=>exact ⟨j+1,by omega,by go_num,S3,HRES.out.1,by rw[←HNL.out,HN.out];exact HRES.out.2.1,by rw[←HNL.out,HN.out];exact HRES.out.2.2.1,HRES.out.2.2.2⟩
        case measure=>simp[intOf];omega
       ·have hxe:(xv == v)=false:=by simpa using hxv
        clear hC
        go_wp2_with fail
        go_roundw
        case rel=>exact ⟨j+1,by omega,by go_num,S3,HRES.out.1,by rw[←HNL.out,HN.out];exact HRES.out.2.1,by rw[←HNL.out,HN.out];exact HRES.out.2.2.1,HRES.out.2.2.2⟩
        case measure=>simp[intOf];omega
    ·obtain rfl:ks.length=j:=by omega
     rw[List.take_length,HTP.out] at hsaw2 ho2
     have HR2:=Zh (And.intro hsaw2 ho2)
     clear hsaw2 ho2
     go_wp2_with fail
     go_roundw
     case rel=>exact ⟨k+1,by omega,by go_num,hS2,by rw[HSK.out];exact HR2.out.1,by rw[HSK.out];exact HR2.out.2⟩
     case measure=>simp[intOf];omega
  ·obtain rfl:ps.length=k:=by omega
   rw[List.take_length] at ho
   have HI:=Zh (zA6 ho.isRow)
   clear ho hsaw
   go_wp2_with fail
   go_ret
   exact ⟨⟨_,rfl,HI.out⟩,(S0.step hS.below).below⟩
end Go.Proofs.YthgmphbkkojaoaaGreat
