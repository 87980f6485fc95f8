/-
  TaleSays: for every input of bulk at most 1048576 the law returns true, and leaves what it was given as it was.
-/
import Derived.Test.YthgmphbkkojaoaaGreatTaleSaysWalk
import Derived.Test.YthgmphbkkojaoaaGreatReadTale
import Derived.ProofKit
import Derived.OpenShut
import Derived.SizedLaws
import Derived.Deep.CondSized
import Derived.Test.YthgmphbkkojaoaaGreatBulk
namespace Go.Proofs.YthgmphbkkojaoaaGreat.taleSays
open Go.ChangeShapes Go.WideShapes Go.ChangeAt Go.RowKit
theorem own:ownKnob Tryz.prog.godebug=none:=by kernel_rfl
theorem laidOut:laidOutB Tryz.prog=true:=by kernel_rfl
set_option maxRecDepth 100000 in
theorem lifted(os:Os)(started:os.Started)(H:Type)(enc:TypeId × Value→H)(F:Stop.Interp) :
  ReturnsInHanded {} Tryz.checked os 4 .any ((Rows.OpenSpec.upto Rows.taleSaysSpec).pre6 enc Tryz.prog Tryz.f4 Rows.taleSaysUptoRow.domain false) (((Rows.OpenSpec.upto Rows.taleSaysSpec).at F).post enc Tryz.prog Tryz.f4 false true false false):=by
 refine returnsInHanded_of_cond_sized (C:=Tryz.checked) (s:=Rows.OpenSpec.upto Rows.taleSaysSpec) (k:=Rows.uptoSmall) rfl own started (by kernel_rfl) Tryz.func4
  (OpenSpec.witness (enc:=enc) (C:=Tryz.checked) (s:=Rows.OpenSpec.upto Rows.taleSaysSpec) (k:=Rows.uptoSmall) rfl false ⟨#[],#[.slice none 0 0,.slice none 0 0,.agg #[.slice none 0 0,.slice none 0 0],.int .i64 0],[]⟩ 8 (by kernel_rfl) (by kernel_rfl) (by kernel_rfl)
   (x:=([.nil,.nil,.agg [.agg [.nil],.nil],.lit (.int .i64 0)],[],[])) (by kernel_rfl) rfl (by kernel_rfl)) ?_
 intro W base args ds gs before hval0 hW hcnd hk0 hsz0 _
 have hval:∀(j:Nat) t v,Tryz.f4.params[j]?=some t→args[j]?=some v→Value.okWide Tryz.prog W .any base t v:=hval0
 have hsz:(DataW.weightsEach Tryz.prog (Tryz.f4.params.toList++Rows.taleSaysSpec.plain.varTypes Tryz.prog) (ds++gs)).all (· ≤ reachBytes)=true:=hsz0
 have hW':=hW
 obtain ⟨p,q,hA0,hV,rfl,hfz,hnd⟩:=hW
 have hA:DataW.TrodAll enc Tryz.prog W 0 (fun _=>true) true Tryz.f4.params.toList args.toList ds p:=hA0
 rw[Tryz.params4] at hA hval hsz
 obtain ⟨v0,vs0,d0,ds0,p0,q0,hargs,rfl,rfl,h0,r0⟩:=trodAll_cons hA
 obtain ⟨v1,vs1,d1,ds1,p1,q1,rfl,rfl,rfl,h1,r1⟩:=trodAll_cons r0
 obtain ⟨v2,vs2,d2,ds2,p2,q2,rfl,rfl,rfl,h2,r2⟩:=trodAll_cons r1
 obtain ⟨v3,vs3,d3,ds3,p3,q3,rfl,rfl,rfl,h3,r3⟩:=trodAll_cons r2
 obtain ⟨rfl,rfl,rfl⟩:=trodAll_nil r3
 obtain rfl:args=#[v0,v1,v2,v3]:=by cases args;simp_all
 obtain ⟨rfl,rfl⟩:=trodVars_none hV
 have k0:=h0
 have lt0:∀x∈p0,x.block<W.heap.size:=by obtain ⟨m,hm⟩:=k0;exact DataW.trod_lt m _ _ _ hm
 have z0:∀n∈d0.weights Tryz.prog 36,n≤reachBytes:=fun n hn=>by simpa using List.all_eq_true.1 hsz n (DataW.weights_mem_each (j:=0) rfl rfl n hn)
 obtain ⟨x0,w0⟩:=readT_ints (hval 0 36 v0 rfl rfl) h0 z0
 have k1:=h1
 have lt1:∀x∈p1,x.block<W.heap.size:=by obtain ⟨m,hm⟩:=k1;exact DataW.trod_lt m _ _ _ hm
 have z1:∀n∈d1.weights Tryz.prog 28,n≤reachBytes:=fun n hn=>by simpa using List.all_eq_true.1 hsz n (DataW.weights_mem_each (j:=1) rfl rfl n hn)
 obtain ⟨x1,w1⟩:=readT_haps (hval 1 28 v1 rfl rfl) h1 z1
 have k2:=h2
 have lt2:∀x∈p2,x.block<W.heap.size:=by obtain ⟨m,hm⟩:=k2;exact DataW.trod_lt m _ _ _ hm
 have z2:∀n∈d2.weights Tryz.prog 27,n≤reachBytes:=fun n hn=>by simpa using List.all_eq_true.1 hsz n (DataW.weights_mem_each (j:=2) rfl rfl n hn)
 obtain ⟨x2,w2⟩:=zQl (hval 2 27 v2 rfl rfl) h2 z2
 have k3:=h3
 have lt3:∀x∈p3,x.block<W.heap.size:=by obtain ⟨m,hm⟩:=k3;exact DataW.trod_lt m _ _ _ hm
 have z3:∀n∈d3.weights Tryz.prog 3,n≤reachBytes:=fun n hn=>by simpa using List.all_eq_true.1 hsz n (DataW.weights_mem_each (j:=3) rfl rfl n hn)
 obtain ⟨x3,w3⟩:=readT_int (hval 3 3 v3 rfl rfl) h3 z3
 have b0:x0.length≤1100000:=by
  obtain ⟨_,_,e,_⟩:=w0.opened
  have h1:=slice_bulk Tryz.underlying36 k0 e
  have h2:Rows.uptoBulk d0≤1048576:=Nat.le_trans (bulk_part (by simp)) (show Rows.uptoBulkAll _≤1048576 from of_decide_eq_true hk0)
  omega
 have b1:x1.length≤1100000:=by
  obtain ⟨_,_,e,_⟩:=w1.opened
  have h1:=slice_bulk Tryz.underlying28 k1 e
  have h2:Rows.uptoBulk d1≤1048576:=Nat.le_trans (bulk_part (by simp)) (show Rows.uptoBulkAll _≤1048576 from of_decide_eq_true hk0)
  omega
 clear hA0 hval0
 refine (TaleSays_walk v0 x0 v1 x1 v2 x2 v3 x3 W w0 w1 w2 w3 (by omega)).mono fun e W' ⟨he,bel⟩=>?_
 subst he
 exact ⟨_,rfl,_,_,_,[],_,[],hW',trodAll_mk1 (shut_bool Tryz.underlying4 _),(trodAll_cons_mk (Below.trod laidOut (by kernel_rfl) (of_decide_eq_true (by kernel_rfl)) k0 bel lt0) (trodAll_cons_mk (Below.trod laidOut (by kernel_rfl) (of_decide_eq_true (by kernel_rfl)) k1 bel lt1) (trodAll_cons_mk (Below.trod laidOut (by kernel_rfl) (of_decide_eq_true (by kernel_rfl)) k2 bel lt2) (trodAll_cons_mk (Below.trod laidOut (by kernel_rfl) (of_decide_eq_true (by kernel_rfl)) k3 bel lt3) trodAll_mk0)))),rfl,bel.frame _,fun h=>by cases h⟩
theorem over:Rows.taleSaysUptoRow.holds Tryz.pinned (Rows.OpenSpec.upto Rows.taleSaysSpec):=
 OpenClaim.holds_of_cond 4 Tryz.f4 rfl rfl rfl rfl rfl rfl rfl ⟨rfl,rfl,rfl,rfl,rfl⟩ rfl rfl rfl rfl rfl (by kernel_rfl) Tryz.func4 (by kernel_rfl)
  (of_decide_eq_true (by kernel_rfl)) (by unfold Func.isWrapper;first | (rw[if_pos (by decide +kernel)];kernel_rfl) | (rw[if_neg (by decide +kernel)];exact ⟨rfl,rfl⟩))
  (fun os started H enc _ F=>lifted os started H enc F)
theorem proved:Rows.TaleSaysUptoSaid:=over
#print axioms proved
end Go.Proofs.YthgmphbkkojaoaaGreat.taleSays
