/-
  The walk of peer.Drop. The walk of the reference's Without. slices.DeleteFunc at kept shares whose cells are read in any way: with what they lead to left alone.
-/
import Derived.Test.YthgmphbkkojaoaaGreatQMends
set_option maxHeartbeats 2000000
namespace Go.Proofs.YthgmphbkkojaoaaGreat
set_option linter.unusedSectionVars false
variable [Zn]
open Go.RowKit
def zF9(b:List Ver)(p:Pr)(v:Int):Pr:=if zBG b p=0 then (p.1,p.2.1,zAa v p.2.2) else (false,0,[])
theorem zHx(v:Int)(l:List Kp):l.filter (fun z => !decide (z.1=v))=zAa v l:=by
 unfold zAa
 congr 1
 funext z
 simp
theorem zPJ{l:List Kp}(h:l.Pairwise (fun a c=>a.1<c.1))(v:Int)(i j:Nat)(x y:Kp)(hi:l[i]?=some x)(hj:l[j]?=some y)(hx:decide (x.1=v)=true)(hy:decide (y.1=v)=true):i=j:=by
 have hx':x.1=v:=by simpa using hx
 have hy':y.1=v:=by simpa using hy
 obtain ⟨hil,rfl⟩:=List.getElem?_eq_some_iff.1 hi
 obtain ⟨hjl,rfl⟩:=List.getElem?_eq_some_iff.1 hj
 rcases Nat.lt_trichotomy i j with hlt|he|hlt
 ·have:=(List.pairwise_iff_getElem.1 h) i j hil hjl hlt;omega
 ·exact he
 ·have:=(List.pairwise_iff_getElem.1 h) j i hjl hil hlt;omega
set_option maxRecDepth 100000 in
theorem zE9(u:Value)(x:Kp)(M:Int)(b:Nat)(W:World)(hx:zDG W u x)(hc:W.cell? ⟨b,0,none⟩=some (.int .i64 M)) :
  Calls Tryz.prog 99 #[u,.pointer (some ⟨b,0,none⟩)] W fun e w'=>e=.returned (.bool (decide (x.1=M)))∧Below W.heap.size W w':=by
 obtain ⟨y,rfl,hy,_⟩:=hx
 obtain ⟨a,c,rfl,_⟩:=hy.opened
 obtain ⟨n,N,l⟩:=x
 have S0:=(zAD.refl W).alloc (.cells #[.int .i64 n,.int .i64 N,.slice a l.length c] 66)
 have hc':=(S0.below.cell (p:=⟨b,0,none⟩) (zAH hc)).trans hc
 clear hc hy
 go_enter Tryz.func99,Tryz.ntmps99
 go_wp2_with fail
 go_ret
 exact ⟨zAX rfl,S0.below⟩
theorem zKT{v:Int}{l:List Kp}{k:Nat}{x:Kp}(h:l[k]?=some x):zAa v (l.take (k+1))=zAa v (l.take k)++(if x.1≠v then [x] else []):=by
 unfold zAa
 rw[zAv h,List.filter_append]
 congr 1
 by_cases hx:x.1=v<;>simp[hx]
theorem zNK(v:Int)(l:List Kp):(zAa v l).length≤l.length:=List.length_filter_le _ _
set_option maxRecDepth 100000 in
theorem zIf{α:Type}{R:Rd α}(x0:α)(hx0:∀w,R w [.int .i64 0,.int .i64 0,.slice none 0 0] x0)(hR3:∀w cs x,R w cs x→∃za zb az zn cz,cs=[.int .i64 za,.int .i64 zb,.slice az zn cz])(F:Nat)(eF:∀args w,(callFunc F args).run Tryz.prog w=.ok (.enter F args) w)(caps:Array Value)(p:α→Bool)(E:Nat→Prop)(base:Nat)(v:Value)(l:List α)(W:World)(ho:zAK 3 R E W 66 base v l)
  (hu:∀(i j:Nat) (x y:α),l[i]?=some x→l[j]?=some y→p x=true→p y=true→i=j)
  (hI:Calls Tryz.prog 66 #[v,.func (.func F) #[] caps] W fun e w'=>e=.returned (.int .i64 (zAP p l 0))∧Below W.heap.size W w')
  (hF:∀c0 c1 c2 z w,z∈l→W.grownBy w v.ownBlock→R w [c0,c1,c2] z→Calls Tryz.prog F (#[.agg #[c0,c1,c2]]++caps) w fun e w'=>e=.returned (.bool (p z))∧Below w.heap.size w w') :
  Calls Tryz.prog 98 #[v,.func (.func F) #[] caps] W fun e w'=>(∃v',e=.returned v'∧zAK 3 R E w' 66 base v' (l.filter fun z => !p z)∧(v'.ownBlock=v.ownBlock))∧W.grownBy w' v.ownBlock:=by
 have HI:=Zh hI
 have HF:=Zh hF
 have htop:=ho.top
 obtain ⟨a,cap,rfl,hcap,⟨hm,hcm,_⟩,_⟩:=ho.isRow.opened
 clear hF hI
 rcases zFf p l 0 with hr|⟨n,x,hr,hx,hpx⟩
 ·have hfa:=Zh (zEz hr)
  rw[hr] at HI
  clear hr hu
  go_enter Tryz.func98,Tryz.ntmps98
  go_wp2_with fail
  refine HI.out.mono ?_
  rintro e w1 ⟨rfl,hb1⟩
  have HO:=Zh (ho.stays hb1)
  have HG:=Zh (World.grownBy.but (zAi hb1) (Value.slice a l.length cap).ownBlock)
  clear hb1 ho
  go_wp2_with fail
  go_ret
  exact ⟨⟨_,rfl,by rw[hfa.out];exact HO.out,rfl⟩,HG.out⟩
 ·rw[Nat.zero_add] at hr
  rw[hr] at HI
  have HFI:=Zh (zHY hx hpx (fun j y hj hy=>hu j n y x hj hx hy hpx))
  have HU:=Zh (fun (j:Nat) (y:α) (hj:l[j]?=some y) (hjn:n<j)=>show p y=false from by
   cases hpy:p y with
   | false=>rfl
   | true=>have:=hu j n y x hj hx hpy hpx;omega)
  have hnl:n<l.length:=(List.getElem?_eq_some_iff.1 hx).1
  have HEL:=Zh (show (l.eraseIdx n).length=l.length - 1 by rw[List.length_eraseIdx,if_pos hnl])
  clear hu hr hx hpx
  rcases ho.shape with ⟨h5,h6⟩|⟨g,cap',cur,h5,hgb,hgl,hnc,_,_,_⟩
  ·rw[h6] at hnl;simp at hnl
  ·simp only[Value.slice.injEq,true_and] at h5
   obtain ⟨rfl,rfl⟩:=h5
   have hne:(((n:Nat):Int) == -1)=false:=by simp
   go_enter Tryz.func98,Tryz.ntmps98
   go_wp2_with fail
   refine HI.out.mono ?_
   rintro e w1 ⟨rfl,hb1⟩
   have ho1:=ho.stays hb1
   have hg1:=World.grownBy.but (zAi hb1) (some g)
   clear hb1 ho
   go_wp2_with fail
   go_loopw[6,5] (fun j i wr=>∃m:Nat,j=.int .i64 ((m+1:Nat):Int)∧i=.int .i64 m∧n≤m∧m<l.length∧W.grownBy wr (some g)∧zAK 3 R E wr 66 base (.slice (some ⟨g,0,none⟩) l.length cap) ((l.eraseIdx n).take m++l.drop m)) (fun j _ _=>l.length - (intOf j).toNat)
   case atStart=>exact ⟨n,by go_num,rfl,Nat.le_refl _,hnl,hg1,by
    rw[show (l.eraseIdx n).take n++l.drop n=l from by
     rw[List.eraseIdx_eq_take_drop_succ,List.take_append_of_le_length (by rw[List.length_take];omega),List.take_take,Nat.min_self,List.take_append_drop]]
    exact ho1⟩
   case round =>
    obtain ⟨m,rfl,rfl,hnm,hml,hgw,hoc⟩:=hrel
    clear hg1 ho1
    by_cases hlt:m+1<l.length
    ·have hz:l[m+1]?=some l[m+1]:=List.getElem?_eq_getElem hlt
     have hpz:=HU.out (m+1) _ hz (by omega)
     generalize l[m+1]=z at *
     have hcz:((l.eraseIdx n).take m++l.drop m)[m+1]?=some z:=by
      rw[List.getElem?_append_right (by rw[List.length_take];omega),List.length_take,HEL.out,Nat.min_eq_left (by omega),List.getElem?_drop,show m+(m+1 - m)=m+1 by omega,hz]
     obtain ⟨r,g',hg',hrl,hr1,hrc,hrf⟩:=hoc.get hcz
     simp only[Value.ownBlock,Option.some.injEq] at hg'
     subst hg'
     obtain ⟨za,zb,az,zn,cz,rfl⟩:=hR3 _ _ _ hrf.now
     have k0:wr.cell? ⟨g,(m+1)*3,none⟩=some (.int .i64 za):=hrc 0 _ rfl
     have k1:wr.cell? ⟨g,(m+1)*3+1,none⟩=some (.int .i64 zb):=hrc 1 _ rfl
     have k2:wr.cell? ⟨g,(m+1)*3+2,none⟩=some (.slice az zn cz):=hrc 2 _ rfl
     have hcl:((l.eraseIdx n).take m++l.drop m).length=l.length:=by rw[List.length_append,List.length_take,List.length_drop,HEL.out];omega
     have sp:∀j,j<3→(wr.cell? ⟨g,m*3+j,none⟩).isSome=true∧wr.frozen? ⟨g,m*3+j,none⟩=false:=fun j hj=>hoc.spare (by omega)
     have HRF:=Zh hrf
     have HST:=Zh (zKm hnm hz)
     have HOC:=Zh hoc
     have HGW:=Zh hgw
     have hgb:=zAi (zAB wr (.cells #[.int .i64 za,.int .i64 zb,.slice az zn cz] 66))
     have BB:=zAB wr (.cells #[.int .i64 za,.int .i64 zb,.slice az zn cz] 66)
     have HK:Hid (R (wr.alloc (.cells #[.int .i64 za,.int .i64 zb,.slice az zn cz] 66)) [.int .i64 za,.int .i64 zb,.slice az zn cz] z):=Zh (hrf.step (zAF.old BB _)).now
     have hg2:W.grownBy (wr.alloc (.cells #[.int .i64 za,.int .i64 zb,.slice az zn cz] 66)) (some g):=hgw.trans (World.grownBy.but hgb _)
     have hmem:z∈l:=List.mem_of_getElem? hz
     have s1:(m:Int)+1<(l.length:Int):=by omega
     have s2:(m:Int)<(l.length:Int):=by omega
     have s3:(0:Int)≤(m:Int)+1:=by omega
     have s4:((m:Int)+1).toNat=m+1:=by omega
     have q0:(wr.alloc (.cells #[.int .i64 za,.int .i64 zb,.slice az zn cz] 66)).cell? ⟨wr.heap.size,0,none⟩=some (.int .i64 za):=by go_simp
     have q1:(wr.alloc (.cells #[.int .i64 za,.int .i64 zb,.slice az zn cz] 66)).cell? ⟨wr.heap.size,1,none⟩=some (.int .i64 zb):=by go_simp
     have q2:(wr.alloc (.cells #[.int .i64 za,.int .i64 zb,.slice az zn cz] 66)).cell? ⟨wr.heap.size,2,none⟩=some (.slice az zn cz):=by go_simp
     have HP:=Zh hpz
     have HSP:=Zh sp
     clear hz hcz hrf hr1 hrc hrl hoc hgw hgb hpz sp hcl
     go_upto_region 8 with fail
     obtain ⟨B7,hB7⟩:∃B7,B7=wr.heap.size:=⟨_,rfl⟩
     rw[←hB7] at q0 q1 q2 ⊢
     have HSPA:Hid (∀j,j<3→((wr.alloc (.cells #[.int .i64 za,.int .i64 zb,.slice az zn cz] 66)).cell? ⟨g,m*3+j,none⟩).isSome=true∧(wr.alloc (.cells #[.int .i64 za,.int .i64 zb,.slice az zn cz] 66)).frozen? ⟨g,m*3+j,none⟩=false):=Zh (fun j hj=>by
      obtain ⟨h1,h2⟩:=HSP.out j hj
      obtain ⟨c,hc⟩:=Option.isSome_iff_exists.1 h1
      exact ⟨by rw[zAA BB hc];rfl,zAE BB hc h2⟩)
     have HOA:=Zh (HOC.out.stays BB)
     have HRA:=Zh (HRF.out.step (zAF.old BB _))
     clear k0 k1 k2 BB hB7
     generalize wr.alloc (.cells #[.int .i64 za,.int .i64 zb,.slice az zn cz] 66)=w2 at *
     have HCALL:=Zh (hg2)
     go_wp2_with (go_at_fn F;refine (HF.out _ _ _ z _ hmem hg2 HK.out).mono ?_;rintro e w3 ⟨rfl,hb3⟩;rw[HP.out];have d0:=zAA hb3 q0;have d1:=zAA hb3 q1;have d2:=zAA hb3 q2;obtain ⟨u0,hu0⟩:=Option.isSome_iff_exists.1 (HSPA.out 0 (by omega)).1;obtain ⟨u1,hu1⟩:=Option.isSome_iff_exists.1 (HSPA.out 1 (by omega)).1;obtain ⟨u2,hu2⟩:=Option.isSome_iff_exists.1 (HSPA.out 2 (by omega)).1;have x0:w3.cell? ⟨g,m*3,none⟩=some u0:=zAA hb3 hu0;have x1:=zAA hb3 hu1;have x2:=zAA hb3 hu2;have y0:w3.frozen? ⟨g,m*3,none⟩=false:=zAE hb3 hu0 (HSPA.out 0 (by omega)).2;have y1:=zAE hb3 hu1 (HSPA.out 1 (by omega)).2;have y2:=zAE hb3 hu2 (HSPA.out 2 (by omega)).2)
     have ho5:=(HOA.out.stays hb3).setElem (k:=m) (r:=[.int .i64 za,.int .i64 zb,.slice az zn cz]) (x:=z) (by rw[List.length_append,List.length_take,List.length_drop,HEL.out];omega) rfl (by intro c hc;simp at hc;rcases hc with rfl | rfl | rfl<;>rfl) (HRA.out.step (zAF.old hb3 _))
     rw[HST.out] at ho5
     have hg5:W.grownBy (w3.setCells g (m*3) [.int .i64 za,.int .i64 zb,.slice az zn cz]) (some g):=(hg2.trans (World.grownBy.but (zAi hb3) _)).trans (zAQ g _ (m*3) w3)
     have HO5:=Zh ho5
     have HG5:=Zh hg5
     clear ho5 hg5 d0 d1 d2 hu0 hu1 hu2 x0 x1 x2 y0 y1 y2 hb3 q0 q1 q2
     go_roundw
     case rel=>exact ⟨m+1,by go_num,by go_num,by omega,by omega,HG5.out,HO5.out⟩
     case measure=>simp[intOf];omega
    ·have hm1:l.length - m=1:=by omega
     have hcl:∀ty,(Builtin.clear_ #[60] ty #[.slice (some ⟨g,m*3,none⟩) (l.length - m) (cap - m)]).run Tryz.prog wr=.ok (.tuple #[]) (wr.setCells g (m*3) [.int .i64 0,.int .i64 0,.slice none 0 0]):=by
      intro ty
      rw[hm1]
      exact zDc wr _ _ ty _ _ _ _ Tryz.underlying60 zIx rfl rfl rfl rfl g (m*3) _ (fun j hj=>hoc.spare (by omega))
     have hel:=HEL.out
     have hcln:((l.eraseIdx n).take m++l.drop m).length=l.length:=by rw[List.length_append,List.length_take,List.length_drop,hel];omega
     have hz0:zA3 (fun j=>some g=some j∨E j) R wr [.int .i64 0,.int .i64 0,.slice none 0 0] x0:=fun w' _=>hx0 w'
     have ho6:=(hoc.setElem (k:=m) (r:=[.int .i64 0,.int .i64 0,.slice none 0 0]) (x:=x0) (by omega) rfl (by intro c hc;simp at hc;rcases hc with rfl | rfl<;>rfl) hz0).take m (by rw[List.length_set];omega) rfl
     have e6:(((l.eraseIdx n).take m++l.drop m).set m x0).take m=l.eraseIdx n:=by
      rw[List.take_set_of_le (Nat.le_refl _),List.take_append_of_le_length (by rw[List.length_take];omega),List.take_take,Nat.min_self,List.take_of_length_le (by omega)]
     rw[e6] at ho6
     have HO6:=Zh ho6
     have HG6:=Zh (hgw.trans (zAQ g [.int .i64 0,.int .i64 0,.slice none 0 0] (m*3) wr))
     have s1:¬(m:Int)+1<(l.length:Int):=by omega
     have s2:(m:Int)≤(l.length:Int):=by omega
     have s3:¬cap=m:=by omega
     have s4:(m:Int)≤(cap:Int):=by omega
     clear hoc hgw ho6 e6 hz0 hcln hel hm1
     go_wp2_with fail
     go_ret
     exact ⟨⟨_,rfl,by rw[HFI.out];exact HO6.out,rfl⟩,HG6.out⟩
theorem zH2{α β:Type}(f:α→β)(p:β→Bool):∀(l:List α) (k:Nat),zAP (fun x=>p (f x)) l k=zAP p (l.map f) k
 | [],_=>rfl
 | x::l,k=>by
  rw[List.map_cons]
  unfold zAP
  rw[zH2 f p l (k+1)]
theorem zF3(F:Nat)(eF:∀args w,(callFunc F args).run Tryz.prog w=.ok (.enter F args) w)(caps:Array Value)(p:Kp→Bool)(base:Nat)(v:Value)(ys:List KpD)(W:World)(hd:DK W base v ys)
  (hu:∀(i j:Nat) (x y:Kp),(ys.map (·.1))[i]?=some x→(ys.map (·.1))[j]?=some y→p x=true→p y=true→i=j)
  (hI:Calls Tryz.prog 66 #[v,.func (.func F) #[] caps] W fun e w'=>e=.returned (.int .i64 (zAP p (ys.map (·.1)) 0))∧Below W.heap.size W w')
  (hF:∀u z w,W.grownBy w v.ownBlock→zDG w u z→Calls Tryz.prog F (#[u]++caps) w fun e w'=>e=.returned (.bool (p z))∧Below w.heap.size w w') :
  Calls Tryz.prog 98 #[v,.func (.func F) #[] caps] W fun e w'=>(∃v',e=.returned v'∧zF7 w' base v' ((ys.map (·.1)).filter fun z => !p z))∧W.grownBy w' v.ownBlock:=by
 refine (zIf (R:=RC) ((0,0,[]),.slice none 0 0) (fun w=>⟨rfl,_,_,_,rfl⟩) (fun w cs x h=>by
  obtain ⟨rfl,a,n,c,e⟩:=h
  exact ⟨_,_,a,n,c,by rw[e]⟩) F eF caps (fun y=>p y.1) (fun _=>False) base v ys W hd.row (fun i j x y hx hy h1 h2=>hu i j x.1 y.1 (by rw[List.getElem?_map,hx];rfl) (by rw[List.getElem?_map,hy];rfl) h1 h2)
  (by rw[zH2 (fun y:KpD=>y.1) p];exact hI) (fun c0 c1 c2 z w hz hg hR=>?_)).mono ?_
 ·obtain ⟨h1,h2,h3,h4⟩:=hd.vals z hz
  have hc:=hR.1
  simp only[List.cons.injEq,and_true] at hc
  obtain ⟨rfl,rfl,rfl⟩:=hc
  refine hF _ z.1 w hg ⟨_,rfl,(h1.kept hg ?_).isInts,h2,h3⟩
  cases hq:z.2.ownBlock with
  | none=>exact Or.inl rfl
  | some j=>right;intro e;exact h4 j j hq e.symm rfl
 ·rintro e w' ⟨⟨v',rfl,ho,hb⟩,hg⟩
  refine ⟨⟨v',rfl,ys.filter fun y => !p y.1,?_,ho,fun y hy=>?_,hd.apart.sublist List.filter_sublist⟩,hg⟩
  ·rw[List.filter_map];rfl
  ·obtain ⟨h1,h2,h3,h4⟩:=hd.vals y (List.mem_filter.1 hy).1
   refine ⟨h1.kept hg ?_,h2,h3,fun i j hi hj e=>h4 i j hi (by rw[←hb];exact hj) e⟩
   cases hq:y.2.ownBlock with
   | none=>exact Or.inl rfl
   | some j=>right;intro e;exact h4 j j hq e.symm rfl
end Go.Proofs.YthgmphbkkojaoaaGreat
