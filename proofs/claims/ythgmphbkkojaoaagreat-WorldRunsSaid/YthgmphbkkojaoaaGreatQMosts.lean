/-
  The library's slices.Sort, laid at this program: the numbers of this seat. slices.Sort at ints of the call's own. vote.Most walked. The closed fact of the vote.
-/
import Derived.Shelf.SlLaysNS
import Derived.Shelf.SortG.Plain
import Derived.Shelf.SortG.SortNone
import Derived.Sort.OwnSortedInts
import Derived.Test.YthgmphbkkojaoaaGreatQTries
set_option maxHeartbeats 4000000
namespace Go.Proofs.YthgmphbkkojaoaaGreat
set_option linter.unusedSectionVars false
variable [Zn]
def zCH:Go.Shelf.Ren:=⟨fun | 53=>108 | 64=>124 | 63=>127 | 78=>144 | 79=>145 | 70=>155 | 71=>156 | 72=>157 | 73=>158 | 74=>159 | 75=>160 | 59=>161 | 76=>162 | 77=>163 | 88=>176 | 89=>169 | 90=>170 | 91=>177 | 92=>178 | 68=>154 | 96=>183 | n=>n,fun | 22=>36 | 23=>3 | 3=>3 | 51=>157 | 0=>0 | 67=>175 | 69=>177 | 4=>4 | 61=>168 | 60=>167 | 44=>172 | 5=>5 | 9=>9 | 75=>191 | 79=>195 | 83=>202 | 84=>203 | n=>n,fun | n=>n⟩
theorem zGr:Go.Proofs.SlLaysN.n53 Tryz.prog zCH:={
 mixed:=by kernel_rfl,
 f53:=⟨Tryz.f108.name,by decide,Tryz.func108.trans (congrArg some (by kernel_rfl))⟩,
 f59:=⟨Tryz.f161.name,by decide,Tryz.func161.trans (congrArg some (by kernel_rfl))⟩,
 f63:=⟨Tryz.f127.name,by decide,Tryz.func127.trans (congrArg some (by kernel_rfl))⟩,
 f64:=Tryz.func124.trans (congrArg some (by kernel_rfl)),
 f68:=⟨Tryz.f154.name,by decide,Tryz.func154.trans (congrArg some (by kernel_rfl))⟩,
 f70:=⟨Tryz.f155.name,by decide,Tryz.func155.trans (congrArg some (by kernel_rfl))⟩,
 f71:=⟨Tryz.f156.name,by decide,Tryz.func156.trans (congrArg some (by kernel_rfl))⟩,
 f72:=⟨Tryz.f157.name,by decide,Tryz.func157.trans (congrArg some (by kernel_rfl))⟩,
 f73:=⟨Tryz.f158.name,by decide,Tryz.func158.trans (congrArg some (by kernel_rfl))⟩,
 f74:=⟨Tryz.f159.name,by decide,Tryz.func159.trans (congrArg some (by kernel_rfl))⟩,
 f75:=⟨Tryz.f160.name,by decide,Tryz.func160.trans (congrArg some (by kernel_rfl))⟩,
 f76:=⟨Tryz.f162.name,by decide,Tryz.func162.trans (congrArg some (by kernel_rfl))⟩,
 f77:=⟨Tryz.f163.name,by decide,Tryz.func163.trans (congrArg some (by kernel_rfl))⟩,
 f78:=Tryz.func144.trans (congrArg some (by kernel_rfl)),
 f79:=Tryz.func145.trans (congrArg some (by kernel_rfl)),
 f88:=⟨Tryz.f176.name,by decide,Tryz.func176.trans (congrArg some (by kernel_rfl))⟩,
 f89:=Tryz.func169.trans (congrArg some (by kernel_rfl)),
 f90:=Tryz.func170.trans (congrArg some (by kernel_rfl)),
 f91:=⟨Tryz.f177.name,by decide,Tryz.func177.trans (congrArg some (by kernel_rfl))⟩,
 f92:=⟨Tryz.f178.name,by decide,Tryz.func178.trans (congrArg some (by kernel_rfl))⟩,
 f96:=⟨Tryz.f183.name,by decide,Tryz.func183.trans (congrArg some (by kernel_rfl))⟩,
 t0:=Tryz.underlying0,
 a0:=Tryz.isAgg0,
 z0:=Tryz.sizeOf0,
 v0:=Tryz.zeroValue0,
 t3:=Tryz.underlying3,
 a3:=Tryz.isAgg3,
 z3:=Tryz.sizeOf3,
 v3:=Tryz.zeroValue3,
 t4:=Tryz.underlying4,
 a4:=Tryz.isAgg4,
 z4:=Tryz.sizeOf4,
 v4:=Tryz.zeroValue4,
 t5:=Tryz.underlying5,
 a5:=Tryz.isAgg5,
 z5:=Tryz.sizeOf5,
 v5:=Tryz.zeroValue5,
 t9:=Tryz.underlying9,
 a9:=Tryz.isAgg9,
 z9:=Tryz.sizeOf9,
 v9:=Tryz.zeroValue9,
 t22:=Tryz.underlying36,
 a22:=Tryz.isAgg36,
 z22:=Tryz.sizeOf36,
 v22:=Tryz.zeroValue36,
 t23:=Tryz.underlying3,
 a23:=Tryz.isAgg3,
 z23:=Tryz.sizeOf3,
 v23:=Tryz.zeroValue3,
 t44:=Tryz.underlying172,
 a44:=Tryz.isAgg172,
 z44:=Tryz.sizeOf172,
 v44:=Tryz.zeroValue172,
 t51:=Tryz.underlying157,
 a51:=Tryz.isAgg157,
 z51:=Tryz.sizeOf157,
 v51:=Tryz.zeroValue157,
 t60:=Tryz.underlying167,
 a60:=Tryz.isAgg167,
 z60:=Tryz.sizeOf167,
 v60:=Tryz.zeroValue167,
 t61:=Tryz.underlying168,
 a61:=Tryz.isAgg168,
 z61:=Tryz.sizeOf168,
 v61:=Tryz.zeroValue168,
 t67:=Tryz.underlying175,
 a67:=Tryz.isAgg175,
 z67:=Tryz.sizeOf175,
 v67:=Tryz.zeroValue175,
 t69:=Tryz.underlying177,
 a69:=Tryz.isAgg177,
 z69:=Tryz.sizeOf177,
 v69:=Tryz.zeroValue177,
 t75:=Tryz.underlying191,
 a75:=Tryz.isAgg191,
 z75:=Tryz.sizeOf191,
 v75:=Tryz.zeroValue191,
 t79:=Tryz.underlying195,
 a79:=Tryz.isAgg195,
 z79:=Tryz.sizeOf195,
 v79:=Tryz.zeroValue195,
 t83:=Tryz.underlying202,
 a83:=Tryz.isAgg202,
 z83:=Tryz.sizeOf202,
 v83:=Tryz.zeroValue202,
 t84:=Tryz.underlying203,
 a84:=Tryz.isAgg203,
 z84:=Tryz.sizeOf203,
 v84:=Tryz.zeroValue203
}
open Go.RowKit Go.Sort
def zIm(l:List Int):List Int:=l.mergeSort fun x y=>decide (x≤y)
theorem zF0(l:List Int):(zIm l).Perm l:=List.mergeSort_perm _ _
theorem zIk(l:List Int):(zIm l).length=l.length:=(zF0 l).length_eq
theorem zH6(base:Nat)(v:Value)(l:List Int)(W:World)(ho:zAJ W 3 base v l) :
  Calls Tryz.prog 108 #[v] W fun e w'=>e=.returned (.tuple #[])∧zAJ w' 3 base v (zIm l)∧W.grownBy w' v.ownBlock:=by
 obtain ⟨ho1,hb,hl⟩:=ho
 rcases ho1.2 with ⟨rfl,hn⟩|⟨g,cap,cur,rfl,hbg,hg,hnc,hcm,hcs,htk⟩
 ·obtain rfl:l=[]:=List.eq_nil_of_length_eq_zero hn
  refine (AnyG.slices_Sort_int_none zGr none 0 W).mono ?_
  rintro e w' ⟨rfl,rfl⟩
  exact ⟨rfl,by rw[show zIm []=[] by simp[zIm]];exact zAJ.nil _ _ _,World.grownBy.refl _ _⟩
 ·rw[Nat.mul_one] at htk
  refine (AnyG.slices_Sort_int zGr g 0 cap l W (holds_of_blockI hg htk) (Array.getElem?_eq_some_iff.1 hg).1 (by omega)).mono ?_
  rintro e w' ⟨rfl,n,os,rfl⟩
  refine ⟨rfl,⟨?_,fun x hx=>hb x ((zF0 l).mem_iff.1 hx),by rw[zIk];exact hl⟩,grownBy_sortedI _⟩
  rw[zIk]
  exact ownsRow_sortedI (ts:=zIm l) (zIk l) hbg hg hnc hcm hcs
open Go.RowKit
theorem zUK(W:World)(z:Tb)(hz:z.ok W.heap.size)(n o s:Nat)(al:Option Addr)(cl:Nat)(ls:List Sh)(hL:zAN W (.slice al ls.length cl) ls)(hR:zBe n o s ls) :
  ∀(m i:Nat),ls.length - i≤m→i≤ls.length→zVS W z n o s al cl ls i:=by
 intro m
 induction m with
 | zero =>
  intro i hm hi x hx pk vp w st h1 h2 h3 h4 h5 h6
  subst hx
  unfold zUS
  by_cases hn:pk.length=n
  ·rw[if_pos hn]
   exact zPE W z hz n o s al cl ls hL hR i pk vp w st hn h2 h3 h4 h5 h6
  ·rw[if_neg hn]
   exact zPP W z hz n o s al cl ls hL hR i hi (fun j h7 h8=>by omega) pk vp w st (by omega) h2 h3 h4 h5 h6
 | succ m ih =>
  intro i hm hi x hx pk vp w st h1 h2 h3 h4 h5 h6
  subst hx
  unfold zUS
  by_cases hn:pk.length=n
  ·rw[if_pos hn]
   exact zPE W z hz n o s al cl ls hL hR i pk vp w st hn h2 h3 h4 h5 h6
  ·rw[if_neg hn]
   exact zPP W z hz n o s al cl ls hL hR i hi (fun j h7 h8=>ih j (by omega) h8) pk vp w st (by omega) h2 h3 h4 h5 h6
theorem zTW(n o s N:Int)(l:List Int):zDy n o s N l≠9:=by
 have h:∀l:List Int,zEn l≠9:=by
  intro l
  induction l with
  | nil=>simp[zEn]
  | cons a l ih=>unfold zEn;split<;>simp_all
 unfold zDy zAx
 repeat' split
 all_goals first | exact h _ | (intro h9;omega)
theorem zKd(n o s:Int):∀(r seen:List Sh),zAw n o s seen r≠9
 | [],_=>by simp[zAw]
 | t::r,seen=>by
  unfold zAw
  have h1:=zTW n o s t.1 t.2
  have h2:=zKd n o s r (seen++[t])
  repeat' split
  all_goals first | assumption | (intro h9;omega)
theorem zOY(n o s:Int)(ls:List Sh):zAb n o s ls≠9:=by
 have h1:=zKd n o s ls []
 unfold zAb zAx
 repeat' split
 all_goals first | assumption | (intro h9;omega)
theorem zTv{v u:Value}{a b:Int}(h:a=b):Ending.returned (.tuple #[v,u,.int .i64 a])=.returned (.tuple #[v,u,.int .i64 b]):=by rw[h]
set_option maxRecDepth 100000 in
theorem zUU(n o s:Int)(v:Value)(ls:List Sh)(W:World)(hd:zAN W v ls)(hE:zAb n o s ls≠0) :
  Calls Tryz.prog 96 #[.agg #[.int .i64 n,.int .i64 o,.int .i64 s],v] W fun e w'=>e=.returned (.tuple #[.slice none 0 0,.slice none 0 0,.int .i64 (zCF n o s ls)])∧Below W.heap.size W w':=by
 have HE:=Zh hE
 have HM:=Zh (zEi hE)
 have h9:=zOY n o s ls
 obtain ⟨a,c,rfl,_⟩:=hd.opened
 have S0:=((zAD.refl W).alloc (.cells #[.int .i64 n,.int .i64 o,.int .i64 s] 49)).alloc (.cells #[.slice a ls.length c] 83)
 have hd0:=zAs hd S0.below
 clear hE hd
 obtain ⟨E,hEE⟩:∃E,E=zAb n o s ls:=⟨_,rfl⟩
 rw[←hEE] at h9
 have HEE:=Zh hEE
 have hn0:(E != 0)=true:=by rw[hEE];simpa using HE.out
 have hn9:(E != 9)=true:=by simpa using h9
 clear hEE
 go_enter Tryz.func96,Tryz.ntmps96
 go_wp2_with (go_at_call 116;go_fit (zTI n o s _ ls _ hd0 HE.out);rintro e w1 ⟨rfl,hb1⟩;rw[←HEE.out])
 exact bodyPost_ret (v:=.tuple #[.slice none 0 0,.slice none 0 0,.int .i64 E]) (by simp[results,Tryz.results96,go_sem]) rfl ⟨by rw[HM.out,←HEE.out],(S0.step hb1).below⟩
set_option maxRecDepth 100000 in
theorem zQZ(n o s:Nat)(v:Value)(ls:List Sh)(W:World)(hd:zAN W v ls)(hR:zBe n o s ls) :
  Calls Tryz.prog 96 #[.agg #[.int .i64 n,.int .i64 o,.int .i64 s],v] W fun e w'=>(∃vb vw,e=.returned (.tuple #[vb,vw,.int .i64 (zCF n o s ls)])∧zAG w' vb (zEs n o s ls)∧zAG w' vw (zEq n o s ls))∧Below W.heap.size W w':=by
 have HR:=Zh hR
 have HD:=Zh hd
 have hmany:=hR.many
 have hJ:zBx n o s ls=0∨zBx n o s ls=9:=by
  unfold zBx
  rw[if_neg (by simpa using hR.checks)]
  repeat' split
  all_goals simp
 obtain ⟨a,c,rfl,_⟩:=hd.opened
 have S0:=((zAD.refl W).alloc (.cells #[.int .i64 n,.int .i64 o,.int .i64 s] 49)).alloc (.cells #[.slice a ls.length c] 83)
 have hd0:=zAs hd S0.below
 clear hR hd
 obtain ⟨J,hJJ⟩:∃J,J=zBx n o s ls:=⟨_,rfl⟩
 rw[←hJJ] at hJ
 have HJJ:=Zh hJJ
 clear hJJ
 go_enter Tryz.func96,Tryz.ntmps96
 go_upto_region 2 with (go_at_call 116;go_fit (zRk n o s _ ls _ hd0 HR.out HR.out.check);rintro e w1 ⟨⟨v1,rfl,hi1⟩,hb1⟩;rw[←HJJ.out])
 have S1:=S0.step hb1
 clear hd0
 have p0:((W.alloc (.cells #[.int .i64 n,.int .i64 o,.int .i64 s] 49)).alloc (.cells #[.slice a ls.length c] 83)).cell? ⟨W.heap.size,0,none⟩=some (.int .i64 n):=by go_simp
 have p1:((W.alloc (.cells #[.int .i64 n,.int .i64 o,.int .i64 s] 49)).alloc (.cells #[.slice a ls.length c] 83)).cell? ⟨W.heap.size,1,none⟩=some (.int .i64 o):=by go_simp
 have p2:((W.alloc (.cells #[.int .i64 n,.int .i64 o,.int .i64 s] 49)).alloc (.cells #[.slice a ls.length c] 83)).cell? ⟨W.heap.size,2,none⟩=some (.int .i64 s):=by go_simp
 have p3:((W.alloc (.cells #[.int .i64 n,.int .i64 o,.int .i64 s] 49)).alloc (.cells #[.slice a ls.length c] 83)).cell? ⟨W.heap.size+1,0,none⟩=some (.slice a ls.length c):=by go_simp
 have hsz:=hb1.size
 have hsz2:W.heap.size+2≤w1.heap.size:=by simpa using hsz
 obtain ⟨ws,hws,g1,g2,g3,Ss⟩:=zOS w1 (.slice none 0 0) (.slice none 0 0) .nilFunc 36 150
 have HWS:=Zh hws
 have hbs:=hb1.trans (Ss.below.mono hb1.size)
 have q0:=zAA hbs p0
 have q1:=zAA hbs p1
 have q2:=zAA hbs p2
 have q3:=zAA hbs p3
 have S2:=S1.step Ss.below
 obtain ⟨z,hz⟩:∃z:Tb,z=⟨W.heap.size,W.heap.size+1,w1.heap.size+1,w1.heap.size,w1.heap.size+1+1⟩:=⟨_,rfl⟩
 have zp:W.heap.size=z.p:=by rw[hz]
 have zl:W.heap.size+1=z.l:=by rw[hz]
 have zw:w1.heap.size+1=z.w:=by rw[hz]
 have zb:w1.heap.size=z.b:=by rw[hz]
 have zt:w1.heap.size+1+1=z.t:=by rw[hz]
 have hzo:z.ok W.heap.size:=by rw[hz];simp only[Tb.ok];omega
 have HZ:Hid (W.heap.size=z.p∧W.heap.size+1=z.l∧w1.heap.size+1=z.w∧w1.heap.size=z.b∧w1.heap.size+1+1=z.t):=Zh ⟨zp,zl,zw,zb,zt⟩
 rw[zb] at g1
 rw[zw] at g2
 rw[zt] at g3
 rw[zp] at q0 q1 q2
 rw[zl] at q3
 have htt:z.t≠z.p∧z.t≠z.l∧W.heap.size≤z.t:=by omega
 clear p0 p1 p2 p3 hz hws hsz hsz2 hb1 zp zl zw zb zt hbs
 have hst:(store ⟨z.t,0,none⟩ (.func (.func 117) #[] #[.pointer (some ⟨z.p,0,none⟩),.pointer (some ⟨z.l,0,none⟩),.pointer (some ⟨z.w,0,none⟩),.pointer (some ⟨z.b,0,none⟩),.pointer (some ⟨z.t,0,none⟩)])).run Tryz.prog ws=.ok () (ws.setCell ⟨z.t,0,none⟩ (.func (.func 117) #[] #[.pointer (some ⟨z.p,0,none⟩),.pointer (some ⟨z.l,0,none⟩),.pointer (some ⟨z.w,0,none⟩),.pointer (some ⟨z.b,0,none⟩),.pointer (some ⟨z.t,0,none⟩)])):=by
  rw[run_store _ _ _ _ _ rfl,zE7 g3]
  simp[zLL g3]
 have hC:zSW z n o s a ls.length c (ws.setCell ⟨z.t,0,none⟩ (.func (.func 117) #[] z.caps)):=
  ⟨(
   zAI _ _ _ _ htt.1.symm).trans q0,(zAI _ _ _ _ htt.1.symm).trans q1,(zAI _ _ _ _ htt.1.symm).trans q2,(zAI _ _ _ _ htt.2.1.symm).trans q3,by
   have:=heap_setCell_same ws z.t 0 _ _ (.func (.func 117) #[] z.caps) g3
   exact zE7 (by simpa using this)⟩
 have hB:zLv z (ws.setCell ⟨z.t,0,none⟩ (.func (.func 117) #[] z.caps)) ([],[]):=
  ⟨none,0,none,0,0,(Below.heap_setCell ws ⟨z.t,0,none⟩ _ z.w hzo.2.2.2.2.1.symm).trans g2,(Below.heap_setCell ws ⟨z.t,0,none⟩ _ z.b hzo.2.2.2.2.2.1.symm).trans g1,zAG.nil _,zAG.nil _,fun _=>⟨rfl,rfl⟩⟩
 have S3:=S2.setCell (a:=⟨z.t,0,none⟩) htt.2.2 (.func (.func 117) #[] z.caps)
 unfold Tb.caps at hC hB S3
 have HB:=Zh hB
 have HC:=Zh hC
 have HZO:=Zh hzo
 have hn1:=(zAg HR.out.plan).1
 have HTRY:=Zh (zUK W z hzo n o s a c ls HD.out HR.out _ 0 (Nat.le_refl _) (Nat.zero_le _))
 obtain ⟨_,_,_,c3,c4⟩:=hC
 unfold Tb.caps at c4
 clear g1 g2 g3 q0 q1 q2 q3 hB hzo Ss S2
 have hcall:Calls Tryz.prog 117 #[.int .i64 0,.slice none 0 0,.pointer (some ⟨z.p,0,none⟩),.pointer (some ⟨z.l,0,none⟩),.pointer (some ⟨z.w,0,none⟩),.pointer (some ⟨z.b,0,none⟩),.pointer (some ⟨z.t,0,none⟩)] (ws.setCell ⟨z.t,0,none⟩ (.func (.func 117) #[] #[.pointer (some ⟨z.p,0,none⟩),.pointer (some ⟨z.l,0,none⟩),.pointer (some ⟨z.w,0,none⟩),.pointer (some ⟨z.b,0,none⟩),.pointer (some ⟨z.t,0,none⟩)])) fun e w' =>
   e=.returned (.tuple #[])∧zAD W.heap.size W w'∧zAF z.E (ws.setCell ⟨z.t,0,none⟩ (.func (.func 117) #[] #[.pointer (some ⟨z.p,0,none⟩),.pointer (some ⟨z.l,0,none⟩),.pointer (some ⟨z.w,0,none⟩),.pointer (some ⟨z.b,0,none⟩),.pointer (some ⟨z.t,0,none⟩)])) w'∧zLv z w' (zKI n o s ls):=by
  refine (HTRY.out 0 rfl [] (.slice none 0 0) _ ([],[]) (by simp) (List.nil_sublist _) (zAK.nil _ _ _) S3 HC.out HB.out).mono ?_
  rintro e w' ⟨he,h1,h2,h3⟩
  refine ⟨he,h1,h2,?_⟩
  have e1:zUS n (zCx n o s ls) [] (ls.drop 0) ([],[])=zKI n o s ls:=by
   unfold zUS
   rw[if_neg (by simp;omega)]
   rfl
  rwa [e1] at h3
 have HCALL:=Zh hcall
 clear hcall htt
 rcases hJ with rfl|rfl
 all_goals
  go_upto_region 6 with fail
  rw[←HWS.out,HZ.out.2.2.2.2,HZ.out.2.2.1,HZ.out.2.1,HZ.out.1,HZ.out.2.2.2.1]
  go_upto_region 8 with (go_at_call 117;go_fit HCALL.out;rintro e w3 ⟨rfl,S4,D4,B4⟩)
  have hC4:=HC.out.dirty HZO.out D4
  have HC4:=Zh hC4
  have HME:=Zh (zGy HR.out.checks)
  obtain ⟨aw,cw,ab,nb,cb,g1,g2,i1,i2,hnil⟩:=B4
  generalize hF:zKI n o s ls=F at *
  have HF:=Zh hF
  have m1:=zE7 g1
  have m2:=zE7 g2
  obtain ⟨_,_,_,d3,_⟩:=hC4
  have hq:∀(w:World) (a:Option Addr) (n c n' c':Nat),(binOp .eql 36 (.slice a n c) (.slice none n' c')).run Tryz.prog w=.ok (.bool a.isNone) w:=fun w a n c n' c'=>Lib.run_eql_slice_nil w _ _ a n c n' c' Tryz.underlying36
  clear c3 c4 hst g1 g2 hF
  by_cases hnone:F.2=[]
  ·obtain ⟨rfl,rfl⟩:=hnil hnone
   have H9:=Zh (show zCF n o s ls=9 by rw[HME.out,if_pos hnone])
   have HB0:=Zh (zIa (n:=n) (o:=o) (s:=s) (ls:=ls) (by rw[H9.out];simp))
   have HW0:=Zh (zIN (n:=n) (o:=o) (s:=s) (ls:=ls) (by rw[H9.out];simp))
   clear hnone i1 i2 hnil
   go_wp2_with fail
   exact bodyPost_ret (v:=.tuple #[.slice none 0 0,.slice none 0 0,.int .i64 9]) (by simp[results,Tryz.results96,go_sem]) rfl ⟨⟨_,_,zTv H9.out.symm,by rw[HB0.out];exact zAG.nil _,by rw[HW0.out];exact zAG.nil _⟩,S4.below⟩
  ·have H0:=Zh (show zCF n o s ls=0 by rw[HME.out,if_neg hnone])
   have HB0:=Zh (zGp (n:=n) (o:=o) (s:=s) (ls:=ls) H0.out)
   have HW0:=Zh (zEo (n:=n) (o:=o) (s:=s) (ls:=ls) H0.out)
   rw[HF.out] at HB0 HW0
   have HI1:=Zh i1
   have HI2:=Zh i2
   have hsome:∃y,aw=some y:=by
    obtain ⟨a',c',e1,_,_,hi⟩:=i1
    simp only[Value.slice.injEq] at e1
    obtain ⟨rfl,_,_⟩:=e1
    obtain ⟨b,off,_,e2,_⟩:=hi 0 (List.length_pos_iff.2 hnone)
    exact ⟨_,e2⟩
   obtain ⟨y,rfl⟩:=hsome
   clear hnone i1 i2 hnil
   have HMM:Hid (∀w',zAD w3.heap.size w3 w'→w'.cell? ⟨z.w,0,none⟩=some (.slice (some y) F.2.length cw)∧w'.cell? ⟨z.b,0,none⟩=some (.slice ab nb cb)):=Zh (fun w' q=>⟨zAA q.below m1,zAA q.below m2⟩)
   have HLS:Hid (∀w',zAD w3.heap.size w3 w'→zAN w' (.slice a ls.length c) ls):=Zh (fun w' q=>zAs HD.out (S4.step q.below).below)
   go_wp2_with fail
   clear m1 m2 d3
   go_loopw[35,12] (fun i x wr=>∃k:Nat,k≤ls.length∧i=.int .i64 k∧zAD w3.heap.size w3 wr∧zAJ wr 3 w3.heap.size x (zKX F.2 0 (ls.take k))) (fun i _ _=>ls.length - (intOf i).toNat)
   case atStart=>exact ⟨0,by omega,rfl,zAD.refl w3,zAJ.nil _ _ _⟩
   case round =>
    obtain ⟨k,hk,rfl,hS,ho⟩:=hrel
    obtain ⟨m1,m2⟩:=HMM.out wr hS
    by_cases hlt:k<ls.length
    ·have hx:ls[k]?=some ls[k]:=List.getElem?_eq_getElem hlt
     obtain ⟨g,off,u,cu,rfl,k0,k1,hiv,hi1⟩:=zBZ (HLS.out wr hS) hx
     have HST:=Zh (zR5 F.2 hx)
     have hol:(zKX F.2 0 (ls.take k)).length≤8:=by
      have:=zPB F.2 (ls.take k) 0
      simp at this
      omega
     generalize ls[k]=t at *
     have S5:=hS.alloc (.cells #[.int .i64 t.1,.slice u t.2.length cu] 64)
     have hA:=zAB wr (.cells #[.int .i64 t.1,.slice u t.2.length cu] 64)
     have HO:=Zh (ho.stays hA)
     have f0:(wr.alloc (.cells #[.int .i64 t.1,.slice u t.2.length cu] 64)).cell? ⟨wr.heap.size,0,none⟩=some (.int .i64 t.1):=by go_simp
     have n1:=zAA hA m1
     clear hx hiv ho hA
     go_upto_region 14 with fail
     generalize wr.alloc (.cells #[.int .i64 t.1,.slice u t.2.length cu] 64)=w5 at *
     obtain ⟨Bt,hBt⟩:∃Bt,Bt=wr.heap.size:=⟨_,rfl⟩
     rw[←hBt] at f0 ⊢
     clear hBt k0 k1 m1 m2 hS
     generalize hT:zEa (k:Int) F.2=T at *
     have HT:=Zh hT
     clear hT
     cases T with
     | true =>
      go_wp2_with (go_at_call 33;go_fit (zBc _ F.2 (k:Int) w5 (HI1.out.stays S5.below));rintro e w' ⟨rfl,rfl⟩;rw[HT.out])
      go_roundw
      case rel=>exact ⟨k+1,by omega,by go_num,S5,by rw[HST.out];simpa using HO.out⟩
      case measure=>simp[intOf];omega
     | false =>
      have ho5:=HO.out.stays (zAB w5 (.cells #[.int .i64 t.1] 3))
      go_wp2_with (first
       | (go_at_call 33;go_fit (zBc _ F.2 (k:Int) w5 (HI1.out.stays S5.below));rintro e w' ⟨rfl,rfl⟩;rw[HT.out])
       | (at_builtin;refine zAc rfl _ _ 36 rfl 3 Tryz.underlying36 zBD w3.heap.size _ _ rfl ho5 ⟨w5.heap.size,0,none⟩ 1 t.1 rfl (by simp) hi1 (by omega) (by have:=S5.2;simp;omega) ?_;intro v' w6 ho6 hg6))
      have S6:=(S5.alloc (.cells #[.int .i64 t.1] 3)).own ho5 hg6
      have HO6:=Zh ho6
      clear ho6 hg6 ho5
      go_roundw
      case rel=>exact ⟨k+1,by omega,by go_num,S6,by rw[HST.out];simpa using HO6.out⟩
      case measure=>simp[intOf];omega
    ·obtain rfl:ls.length=k:=by omega
     rw[List.take_length] at ho
     have hsort:Calls Tryz.prog 108 #[u12] wr fun e w'=>e=.returned (.tuple #[])∧zAJ w' 3 w3.heap.size u12 (zEq n o s ls)∧zAD w3.heap.size w3 w':=by
      refine (zH6 _ _ _ wr ho).mono ?_
      rintro e w' ⟨he,h1,h2⟩
      exact ⟨he,by rw[HW0.out];exact h1,hS.own ho h2⟩
     have HSORT:=Zh hsort
     clear hsort ho
     go_wp2_with (go_at_call 108;go_fit HSORT.out;rintro e w6 ⟨rfl,ho6,S6⟩;obtain ⟨n1,n2⟩:=HMM.out w6 S6)
     exact bodyPost_ret (v:=.tuple #[.slice ab nb cb,u12,.int .i64 0]) (by simp[results,Tryz.results96,go_sem]) rfl ⟨⟨_,_,zTv H0.out.symm,by rw[HB0.out];exact HI2.out.stays S6.below,ho6.isInts⟩,(S4.step S6.below).below⟩
theorem zOy(n o s:Int)(v:Value)(ls:List Sh)(W:World)(hd:zAN W v ls) :
  Calls Tryz.prog 96 #[.agg #[.int .i64 n,.int .i64 o,.int .i64 s],v] W fun e w'=>(∃vb vw,e=.returned (.tuple #[vb,vw,.int .i64 (zCF n o s ls)])∧zAG w' vb (zEs n o s ls)∧zAG w' vw (zEq n o s ls))∧Below W.heap.size W w':=by
 by_cases h:zAb n o s ls=0
 ·have hp:zAx n o s=0:=by
   unfold zAb at h
   split at h
   ·rename_i h1;exact absurd h h1
   ·rename_i h1;simpa using h1
  obtain ⟨n,o,s,rfl,rfl,rfl⟩:=zCq hp
  exact zQZ n o s v ls W hd (zGo.1 h)
 ·refine (zUU n o s v ls W hd h).mono ?_
  rintro e w' ⟨rfl,hb⟩
  have hE:zCF n o s ls≠0:=by rw[zEi h];exact h
  exact ⟨⟨_,_,rfl,by rw[zIa hE];exact zAG.nil _,by rw[zIN hE];exact zAG.nil _⟩,hb⟩
end Go.Proofs.YthgmphbkkojaoaaGreat
