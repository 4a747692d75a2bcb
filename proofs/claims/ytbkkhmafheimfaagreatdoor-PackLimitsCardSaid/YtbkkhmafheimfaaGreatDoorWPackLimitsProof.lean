/- Scripts that are too long, and entries that are none, are refused: for every number of entries too many, every who and every number. No condition beyond the laid tables of the card: for every input. -/
import Derived.Test.YtbkkhmafheimfaaGreatDoorWBv
set_option linter.unusedVariables false
set_option linter.unusedSimpArgs false
set_option maxRecDepth 100000
set_option maxHeartbeats 3200000
namespace Go.Proofs.YtbkkhmafheimfaaGreatDoor.Tk
open Go.ChangeShapes Go.WideShapes Go.ChangeAt Go.RowKit Go.Maps
def entZ (n:Nat):Array Value:=madeCells entE.zero.cells (n * 2)
theorem make_ents (w:World) (n:Nat) (hn:n≤100000):(Instr.makeSlice 22 (.int .i64 n) (.int .i64 n)).run Tryz.prog w=.ok (.slice (some ⟨w.heap.size,0,none⟩) n n) (w.alloc (.cells (entZ n) 42)):=by
 obtain⟨i0,hi,hz0,hz1,hz2⟩:=info_parts entE.info;have h:=run_makeSlice (P:=Tryz.prog) (w:=w) 22 42 i0 entE.zero Tryz.underlying22 hi hz0 .i64 .i64 (n:Int) (n:Int) (by omega) (Int.le_refl _) (by rw[hz1];show (n:Int).toNat * 2≤16777216;omega) (by rw[hz2];show (16:Int) * (n:Int)≤281474976710656;omega) (by omega);rw[h];simp only[Int.toNat_natCast,hz1]
 rfl
theorem entZ_at (n j:Nat) (h:j<n * 2):(entZ n)[j]?=some (.int .i64 0):=by
 have hc:entE.zero.cells=#[.int .i64 0,.int .i64 0]:=rfl;unfold entZ madeCells;rw[hc];rw[Array.getElem?_map,Array.getElem?_range];simp only[h,if_true,Option.map_some];have h2:j % 2=0∨j % 2=1:=by omega
 rcases h2 with h2 | h2 <;> simp[h2]
theorem entZ_sl (w:World) (n:Nat):EntSl (w.alloc (.cells (entZ n) 42)) (fun _=>True) (some ⟨w.heap.size,0,none⟩) (List.replicate n ⟨0,0⟩):=fun j hj=>by
 have hj2:j<n:=by simpa using hj
 refine⟨w.heap.size,0,rfl,trivial,?_,?_⟩
 ·rw[cell_new,entZ_at n _ (by omega)];simp
 ·rw[cell_new,entZ_at n _ (by omega)];simp
theorem rep_ok (n:Nat):(List.replicate n (⟨0,0⟩:Ent)).all entOk=true:=List.all_eq_true.2 fun x hx=>by rw[List.eq_of_mem_replicate hx];rfl
theorem scr_most:∃ s,scrS (List.replicate 4000 (⟨0,0⟩:Ent))=(s,0)∧s.size=4000:=by
 refine⟨bytesS (scrL (List.replicate 4000 ⟨0,0⟩)),?_,by rw[bytesS_size,scrL_len,List.length_replicate]⟩;unfold scrS;rw[rep_ok,if_pos rfl,if_pos (by rw[List.length_replicate];omega)]
theorem scr_more (m:Nat) (h:0<m):scrS (List.replicate (4000+m) (⟨0,0⟩:Ent))=(⟨#[]⟩,5):=by
 unfold scrS;rw[rep_ok,if_pos rfl,if_neg (by rw[List.length_replicate];omega)]
theorem scr_one (x:Ent):(scrS [x]).2=if entOk x then 0 else 1:=by
 unfold scrS
 cases h:entOk x
 ·rw[if_neg (by simp[h]),if_neg (by simp)]
 ·rw[if_pos (by simp[h]),if_pos (by simp),if_pos rfl]
def pX:Prg:=⟨[],[],[⟨[],0,0,[],[⟨27,0,0,0⟩]⟩]⟩
theorem pX_lay:(wProg pX).2=false:=by kernel_rfl
theorem pX_len:(wProg pX).1.length≤1000000:=by decide +kernel
theorem packX (x:Ent):(packS pX cfgP [x]).2=(scrS [x]).2:=by
 unfold packS;rw[if_neg (by decide),if_neg (by rw[pX_lay];decide)]
 split
 ·rfl
 ·rename_i h;exact(Classical.not_not.1 h).symm
def zX (w:World):World:=((w.alloc (.cells #[.int .i64 27,.int .i64 0,.int .i64 0,.int .i64 0] 32)).alloc (.cells #[.slice none 0 0,.int .i64 0,.int .i64 0,.slice none 0 0,.slice (some ⟨w.heap.size,0,none⟩) 1 1] 36)).alloc (.cells #[.slice none 0 0,.slice none 0 0,.slice (some ⟨w.heap.size+1,0,none⟩) 1 1] 40)
theorem zX_below (w:World):Below w.heap.size w (zX w):=(((Below.refl _ _).alloc (Nat.le_refl _) _).alloc (by simp) _).alloc (by simp;omega) _
theorem zX_size (w:World):(zX w).heap.size=w.heap.size+3:=by simp[zX]
theorem zX_cells (w:World):(∀ (j:Nat) u,(#[Value.int .i64 27,.int .i64 0,.int .i64 0,.int .i64 0])[j]?=some u→(zX w).cell? ⟨w.heap.size,j,none⟩=some u)∧(∀ (j:Nat) u,(#[Value.slice none 0 0,.int .i64 0,.int .i64 0,.slice none 0 0,.slice (some ⟨w.heap.size,0,none⟩) 1 1])[j]?=some u→(zX w).cell? ⟨w.heap.size+1,j,none⟩=some u):=by
 refine⟨fun j u h=>?_,fun j u h=>?_⟩
 ·unfold zX
  rw[cell_under _ _ (by simp;omega),cell_under _ _ (by simp),cell_new];exact h
 ·unfold zX
  rw[cell_under _ _ (by simp)];rw[show w.heap.size+1=(w.alloc (.cells #[.int .i64 27,.int .i64 0,.int .i64 0,.int .i64 0] 32)).heap.size from by simp,cell_new]
  simpa using h
theorem zX_prg (w:World):PrgVal (zX w) (fun k=>k<w.heap.size+2) pX (.slice none 0 0) (.slice none 0 0) (.slice (some ⟨w.heap.size+1,0,none⟩) 1 1):=by
 obtain⟨h1,h2⟩:=zX_cells w;refine⟨⟨none,0,rfl,fun j hj=>by cases hj⟩,⟨none,0,rfl,fun j hj=>by cases hj⟩,_,1,rfl,fun j hj=>?_⟩;have hj0:j=0:=by have:j<1:=hj;omega
 subst hj0;refine⟨w.heap.size+1,0,rfl,by show w.heap.size+1<w.heap.size+2;omega,_,_,_,_,_,h2 0 _ rfl,h2 1 _ rfl,h2 2 _ rfl,h2 3 _ rfl,h2 4 _ rfl,rfl,rfl,⟨none,0,rfl,fun j hj=>by cases hj⟩,⟨none,0,rfl,fun j hj=>by cases hj⟩,_,1,rfl,fun i hi=>?_⟩;have hi0:i=0:=by have:i<1:=hi;omega
 subst hi0;exact⟨w.heap.size,0,rfl,by show w.heap.size<w.heap.size+2;omega,h1 0 _ rfl,h1 1 _ rfl,h1 2 _ rfl,h1 3 _ rfl⟩
structure ZX (w0:World) (W:World) (pb fb:Nat):Prop where
 c:W.cell? ⟨pb,0,none⟩=some (.slice none 0 0)∧W.cell? ⟨pb,1,none⟩=some (.slice none 0 0)∧W.cell? ⟨pb,2,none⟩=some (.slice (some ⟨fb,0,none⟩) 1 1)
 v:PrgVal W (fun k=>k<pb) pX (.slice none 0 0) (.slice none 0 0) (.slice (some ⟨fb,0,none⟩) 1 1)
 l:pb<W.heap.size
 b:Below w0.heap.size w0 W
theorem ZX.below {w0 W W':World} {pb fb:Nat} (h:ZX w0 W pb fb) (hb:Below W.heap.size W W'):ZX w0 W' pb fb :=
 ⟨⟨below_cell hb h.c.1,below_cell hb h.c.2.1,below_cell hb h.c.2.2⟩,h.v.fr (Fr.of_below hb (fun _=>False)) (fun _ _ h=>h),Nat.lt_of_lt_of_le h.l hb.size,h.b.trans (hb.mono h.b.size)⟩
theorem zX_zx (w0 w:World) (hb:Below w0.heap.size w0 w):ZX w0 (zX w) (w.heap.size+2) (w.heap.size+1):=by
 have hz3:(zX w).heap[w.heap.size+2]?=some (.cells #[.slice none 0 0,.slice none 0 0,.slice (some ⟨w.heap.size+1,0,none⟩) 1 1] 40):=by
  unfold zX;rw[show w.heap.size+2=((w.alloc (.cells #[.int .i64 27,.int .i64 0,.int .i64 0,.int .i64 0] 32)).alloc (.cells #[.slice none 0 0,.int .i64 0,.int .i64 0,.slice none 0 0,.slice (some ⟨w.heap.size,0,none⟩) 1 1] 36)).heap.size from by simp];exact heap_new _ _
 exact⟨(three_cells hz3).1,zX_prg w,by rw[zX_size];omega,hb.trans ((zX_below w).mono hb.size)⟩
theorem packl_any (w:World) (al:Calls Tryz.prog 5 #[] w fun e w'=>e=.returned (.bool true)∧Below w.heap.size w w') (who:Int) (wa:(Lit.int .i64 who).wf=true) (n:Int) (wb:(Lit.int .i64 n).wf=true) (more:Int) (wc:(Lit.int .i64 more).wf=true) :
  Calls Tryz.prog 4 #[.int .i64 who,.int .i64 n,.int .i64 more] w fun e w'=>e=.returned (.bool true)∧Below w.heap.size w w':=by
 have b3:=bounds_i64 wc;have AL:=k_ al;clear al
 by_cases h0:more<0
 ·go_enter Tryz.func4,Tryz.ntmps4
  go_wp2_with fail;refine AL.out.mono ?_;rintro e w1 ⟨rfl,hb1⟩;go_wp2_with fail
  go_ret
  exact⟨rfl,hb1⟩
 by_cases h3:3<more
 ·go_enter Tryz.func4,Tryz.ntmps4
  go_wp2_with fail;refine AL.out.mono ?_;rintro e w1 ⟨rfl,hb1⟩;go_wp2_with fail
  go_ret
  exact⟨rfl,hb1⟩
 obtain⟨m,rfl⟩:∃ m:Nat,more=m:=⟨more.toNat,by omega⟩;have hm:m≤3:=by omega
 obtain⟨N,hN⟩:∃ N,N=4000+m:=⟨_,rfl⟩;have hmk:∀ wx,(Instr.makeSlice 22 (.int .i64 (4000+(m:Int))) (.int .i64 (4000+(m:Int)))).run Tryz.prog wx=.ok (.slice (some ⟨wx.heap.size,0,none⟩) N N) (wx.alloc (.cells (entZ N) 42)):=fun wx=>by
  have h:=make_ents wx N (by omega);rw[show ((N:Nat):Int)=4000+(m:Int) from by omega] at h;exact h
 have HN:=k_ hN;have hm3:(m:Int)≤3:=by omega
 clear hN wa wb wc b3
 go_enter Tryz.func4,Tryz.ntmps4
 go_wp2_with fail;refine AL.out.mono ?_;rintro e w1 ⟨rfl,hb1⟩;have HB1:=k_ hb1;clear hb1
 go_upto_region 4 with fail
 obtain⟨W3,hW3⟩:∃ u,u=w1.alloc (.cells (entZ N) 42):=⟨_,rfl⟩;have hes:=entZ_sl w1 N;have hb3:Below w1.heap.size w1 W3:=by rw[hW3];exact(Below.refl _ _).alloc (Nat.le_refl _) _
 obtain⟨g,hg⟩:∃ u,u=w1.heap.size:=⟨_,rfl⟩;rw[← hW3] at hes ⊢;rw[← hg] at hes ⊢;have HES:=k_ hes;have HB3:=k_ (HB1.out.trans (hb3.mono HB1.out.size));clear hes hb3 hW3 hg hmk HB1
 go_upto_region 5 with fail
 rw[show ((W3.alloc (.cells #[.int .i64 27,.int .i64 0,.int .i64 0,.int .i64 0] 32)).alloc (.cells #[.slice none 0 0,.int .i64 0,.int .i64 0,.slice none 0 0,.slice (some ⟨W3.heap.size,0,none⟩) 1 1] 36)).alloc (.cells #[.slice none 0 0,.slice none 0 0,.slice (some ⟨W3.heap.size+1,0,none⟩) 1 1] 40)=zX W3 from rfl];have hz:=zX_zx w W3 HB3.out;have hzb:=zX_below W3;obtain⟨Z,hZ⟩:∃ u,u=zX W3:=⟨_,rfl⟩;rw[← hZ] at hz hzb ⊢;clear hZ;obtain⟨pb,hpb⟩:∃ u,u=W3.heap.size+2:=⟨_,rfl⟩;obtain⟨fb,hfb⟩:∃ u,u=W3.heap.size+1:=⟨_,rfl⟩;rw[show W3.heap.size+1+1=pb from hpb.symm];rw[← hpb,← hfb] at hz;rw[← hfb];have HZ:=k_ hz;obtain⟨L,hL⟩:∃ L,L=List.replicate N (⟨0,0⟩:Ent):=⟨_,rfl⟩;have hlen:L.length=N:=by rw[hL];exact List.length_replicate
 have hes4:=HES.out.below' hzb;rw[← hL] at hes4;have sc:=script_any L _ _ N Z (by have:=HN.out;omega) hes4;rw[hlen] at sc;clear hz hzb hpb hfb HES HB3 hlen hes4;obtain⟨q,hq⟩:∃ q,q=(scrS L).1:=⟨_,rfl⟩;obtain⟨ec,hec⟩:∃ ec,ec=(scrS L).2:=⟨_,rfl⟩;rw[← hq,← hec] at sc;have H0:=k_ (show m=0→ec=0∧q.size=4000 from fun hm0=>by
  obtain⟨s,hs,hsz⟩:=scr_most;have:scrS L=(s,0):=by rw[hL,HN.out,hm0];exact hs
  rw[this] at hq hec;exact⟨hec,by rw[hq];exact hsz⟩)
 have H5:=k_ (show 0<m→ec=5∧q=⟨#[]⟩ from fun hm0=>by
  have:scrS L=(⟨#[]⟩,5):=by rw[hL,HN.out];exact scr_more m hm0
  rw[this] at hq hec;exact⟨hec,hq⟩)
 have HSC:=k_ sc;clear sc hq hec hL;go_wp2_with fail;refine(HSC.out).mono ?_;rintro e w4 ⟨rfl,hb4⟩;have HZ4:=k_ (HZ.out.below hb4);clear hb4 HZ HSC
 go_upto_region 6 with fail
 go_cut [62] (fun s wx=>s=.bool false∧wx=w4)
 case first =>
  by_cases hm0:m=0
  ·obtain⟨rfl,hs⟩:=H0.out hm0
   subst hm0;have hq:((q.size:Int) != 4000)=false:=by rw[bne_eq_false_iff_eq];omega
   clear hs;go_wp2_with fail
   go_meet
   case rel=>exact⟨rfl,rfl⟩
  ·obtain⟨rfl,rfl⟩:=H5.out (by omega)
   go_wp2_with fail
   go_meet
   case rel=>exact⟨rfl,rfl⟩
 case rest =>
  obtain⟨rfl,rfl⟩:=hcut;clear H0 H5
  go_upto_region 8 with fail
  go_cut [11] (fun s wx=>s=.bool (entOk ⟨who,n⟩)∧wx=wc)
  case first =>
   by_cases c1:0≤who
   case neg =>
    go_wp2_with fail
    go_meet
    case rel=>exact⟨by unfold entOk;simp;omega,rfl⟩
   by_cases c2:who≤5
   case neg =>
    go_wp2_with fail
    go_meet
    case rel=>exact⟨by unfold entOk;simp;omega,rfl⟩
   by_cases c3:0≤n
   case neg =>
    go_wp2_with fail
    go_meet
    case rel=>exact⟨by unfold entOk;simp;omega,rfl⟩
   by_cases c4:n≤31
   case neg =>
    go_wp2_with fail
    go_meet
    case rel=>exact⟨by unfold entOk;simp;omega,rfl⟩
   go_wp2_with fail
   go_meet
   case rel=>exact⟨by simp[entOk,c1,c2,c3,c4],rfl⟩
  case rest =>
   obtain⟨rfl,rfl⟩:=hcut;obtain⟨R,hR⟩:∃ R,R=entOk ⟨who,n⟩:=⟨_,rfl⟩;rw[← hR];have hes1:EntSl (wc.alloc (.cells #[.int .i64 who,.int .i64 n] 42)) (fun _=>True) (some ⟨wc.heap.size,0,none⟩) [⟨who,n⟩]:=fun j hj=>by
    have hj1:j=0:=by have:j<1:=hj;omega
    subst hj1;have hc:=CellsAt.new wc #[.int .i64 who,.int .i64 n] 42 (0,0);exact⟨_,_,rfl,trivial,hc 0 _ rfl,hc 1 _ rfl⟩
   have s1:=script_any [⟨who,n⟩] _ _ 1 _ (by simp) hes1;obtain⟨ev,hv⟩:∃ ev,ev=(scrS [⟨who,n⟩]).2:=⟨_,rfl⟩;rw[← hv] at s1;generalize (scrS [⟨who,n⟩]).1=q1 at s1;have HV:=k_ hv;have HEV:=k_ (show ev=if R then 0 else 1 from by rw[hv,scr_one,← hR]);have HS1:=k_ s1;have HZA:=k_ (HZ4.out.below ((Below.refl _ _).alloc (Nat.le_refl _) (.cells #[.int .i64 who,.int .i64 n] 42)));clear hv s1 hes1 hR HZ4;go_wp2_with fail;refine HS1.out.mono ?_;rintro e w5 ⟨rfl,hb5⟩;have HZ5:=k_ (HZA.out.below hb5);clear hb5 HZA HS1
   go_upto_region 10 with fail
   obtain⟨z0,z1,z2⟩:=HZ5.out.c;refine wp_region_noPanic ?_;refine wp_region_held_drew (S:=fun w'=>w'.cell? ⟨pb,0,none⟩=some (.slice none 0 0)∧w'.cell? ⟨pb,1,none⟩=some (.slice none 0 0)∧w'.cell? ⟨pb,2,none⟩=some (.slice (some ⟨fb,0,none⟩) 1 1)) (by kernel_rfl) ⟨z0,z1,z2⟩ (fun _=>?_);have HSS:=k_ (show w5.drew.cell? ⟨pb,0,none⟩=some (.slice none 0 0)∧w5.drew.cell? ⟨pb,1,none⟩=some (.slice none 0 0)∧w5.drew.cell? ⟨pb,2,none⟩=some (.slice (some ⟨fb,0,none⟩) 1 1) from⟨z0,z1,z2⟩);have HZD:=k_ (show Below w5.heap.size w5 w5.drew from(Below.refl _ _).drew);clear z0 z1 z2;generalize w5.drew=Y at *;refine wpAnyH_take (i:=0) (v:=?_) rfl (by kernel_rfl) (by kernel_rfl) (by kernel_rfl) (fun _ _ _ h=>h) (Or.inl ⟨by kernel_rfl,?tq0⟩) HSS.out ?_
   case tq0=>(intro wq hq;obtain⟨q0,q1,q2⟩:=hq;go_simp;first | done | with_reducible rfl)
   refine wpAnyH_take (i:=2) (v:=?_) rfl (by kernel_rfl) (by kernel_rfl) (by kernel_rfl) (fun _ _ _ h=>h) (Or.inl ⟨by kernel_rfl,?tq2⟩) HSS.out ?_
   case tq2=>(intro wq hq;obtain⟨q0,q1,q2⟩:=hq;go_simp;first | done | with_reducible rfl)
   refine wpAnyH_take (i:=3) (v:=?_) rfl (by kernel_rfl) (by kernel_rfl) (by kernel_rfl) (fun _ _ _ h=>h) (Or.inl ⟨by kernel_rfl,?tq3⟩) HSS.out ?_
   case tq3=>(intro wq hq;obtain⟨q0,q1,q2⟩:=hq;go_simp;first | done | with_reducible rfl)
   refine wpAnyH_take (i:=4) (v:=?_) rfl (by kernel_rfl) (by kernel_rfl) (by kernel_rfl) (fun _ _ _ h=>h) (Or.inl ⟨by kernel_rfl,?tq4⟩) HSS.out ?_
   case tq4=>(intro wq hq;obtain⟨q0,q1,q2⟩:=hq;go_simp;first | done | with_reducible rfl)
   refine wpAnyH_ready (rs:=[1,5]) (by kernel_rfl) (by simp) ?_;refine(AllReadyH.cons rfl (fun K hK=>?_) (AllReadyH.cons rfl (fun K hK=>?_) AllReadyH.nil))
   ·go_simp
    refine(plain_cfg Y).mono ?_;rintro e Y1 ⟨rfl,hbw⟩;have HZ1:=k_ (HZD.out.trans (hbw.mono HZD.out.size));have HS1:=k_ (And.intro (below_cell hbw HSS.out.1) (And.intro (below_cell hbw HSS.out.2.1) (below_cell hbw HSS.out.2.2)));have HBW:=k_ hbw;clear hbw;refine hK.out _ _ HS1.out (fun _=>?_);clear hK K;refine wpAnyH_ready (rs:=[5]) (by kernel_rfl) (by simp) ?_;refine(AllReadyH.cons rfl (fun K hK=>?_) AllReadyH.nil);go_simp;obtain⟨Y2,hn⟩:∃ u,u=World.alloc Y1 (.cells #[.int .i64 who,.int .i64 n] 42):=⟨_,rfl⟩;have hcl:∀ (j:Nat) u,(#[Value.int .i64 who,.int .i64 n]:Array Value)[j]?=some u→(Y2).cell? ⟨(Y1).heap.size,j,none⟩=some u:=fun j u hj=>by rw[hn,cell_new];exact hj
    have hbw:Below (Y1).heap.size Y1 Y2:=by rw[hn];exact(Below.refl _ _).alloc (Nat.le_refl _) _
    obtain⟨nb,hnb⟩:∃ u,u=(Y1).heap.size:=⟨_,rfl⟩;rw[← hnb] at hcl;rw[← hn,← hnb];have HCL:=k_ hcl;have HZ2:=k_ (HZ1.out.trans (hbw.mono HZ1.out.size));have HS2:=k_ (And.intro (below_cell hbw HS1.out.1) (And.intro (below_cell hbw HS1.out.2.1) (below_cell hbw HS1.out.2.2)));clear hn hcl hbw hnb;refine hK.out _ _ HS2.out (fun _=>?_);clear hK K;have hes:EntSl Y2 (fun _=>True) (some ⟨nb,0,none⟩) [⟨who,n⟩]:=fun j hj=>by
     have hj1:j=0:=by have:j<1:=hj;omega
     subst hj1;exact⟨_,_,rfl,trivial,HCL.out 0 _ rfl,HCL.out 1 _ rfl⟩
    have pk:=pack_any Y2 _ _ pX cfgP [⟨who,n⟩] _ _ _ _ 1 (HZ5.out.v.fr (Fr.of_below HZ2.out (fun _=>False)) (fun _ _ h=>h)) (fun k hk=>by have:=HZ5.out.l;have:=HZ2.out.size;have hk:k<pb:=hk;omega) (by decide) pX_len (by simp) hes;rw[packX,← HV.out] at pk;generalize (packS pX cfgP [⟨who,n⟩]).1=pq at pk;have HPK:=k_ pk;clear pk hes;refine wpAnyH_ready (rs:=[6]) (by kernel_rfl) (by simp) ?_;refine(AllReadyH.cons rfl (fun K hK=>?_) AllReadyH.nil);go_simp;refine HPK.out.mono ?_;rintro e w9 ⟨rfl,hbw⟩;have hs9:=And.intro (below_cell hbw HS2.out.1) (And.intro (below_cell hbw HS2.out.2.1) (below_cell hbw HS2.out.2.2));have HB9:=k_ (HZ5.out.b.trans ((HZ2.out.trans (hbw.mono HZ2.out.size)).mono HZ5.out.b.size));have HS9:=k_ hs9;clear hbw hs9;refine hK.out _ _ HS9.out (fun _=>?_);clear hK K HPK;refine wpAnyH_take (i:=7) (v:=?_) rfl (by kernel_rfl) (by kernel_rfl) (by kernel_rfl) (fun _ _ _ h=>h) (Or.inl ⟨by kernel_rfl,?tq7⟩) HS9.out ?_
    case tq7=>(intro wq hq;obtain⟨q0,q1,q2⟩:=hq;go_simp;first | done | with_reducible rfl)
    refine wpAnyH_take (i:=8) (v:=?_) rfl (by kernel_rfl) (by kernel_rfl) (by kernel_rfl) (fun _ _ _ h=>h) (Or.inl ⟨by kernel_rfl,?tq8⟩) HS9.out ?_
    case tq8=>(intro wq hq;obtain⟨q0,q1,q2⟩:=hq;go_simp;first | done | with_reducible rfl)
    refine wpAnyH_take (i:=9) (v:=?_) rfl (by kernel_rfl) (by kernel_rfl) (by kernel_rfl) (fun _ _ _ h=>h) (Or.inl ⟨by kernel_rfl,?tq9⟩) HS9.out ?_
    case tq9=>(intro wq hq;obtain⟨q0,q1,q2⟩:=hq;go_simp;first | done | with_reducible rfl)
    refine wpAnyH_take (i:=10) (v:=?_) rfl (by kernel_rfl) (by kernel_rfl) (by kernel_rfl) (fun _ _ _ h=>h) (Or.inl ⟨by kernel_rfl,?tq10⟩) HS9.out ?_
    case tq10=>(intro wq hq;obtain⟨q0,q1,q2⟩:=hq;go_simp;first | done | with_reducible rfl)
    refine wpAnyH_take (i:=11) (v:=?_) rfl (by kernel_rfl) (by kernel_rfl) (by kernel_rfl) (fun _ _ _ h=>h) (Or.inl ⟨by kernel_rfl,?tq11⟩) HS9.out ?_
    case tq11=>(intro wq hq;obtain⟨q0,q1,q2⟩:=hq;go_simp;first | done | with_reducible rfl)
    refine wpAnyH_done (by kernel_rfl) ?_ _;refine NoPanic.normal ?_;have hev:=HEV.out
    cases R
    ·obtain rfl:ev=1:=hev
     go_wp2_with fail
     go_ret
     exact⟨rfl,HB9.out⟩
    ·obtain rfl:ev=0:=hev
     go_wp2_with fail
     go_ret
     exact⟨rfl,HB9.out⟩
   ·go_simp
    obtain⟨Y1,hn⟩:∃ u,u=World.alloc Y (.cells #[.int .i64 who,.int .i64 n] 42):=⟨_,rfl⟩;have hcl:∀ (j:Nat) u,(#[Value.int .i64 who,.int .i64 n]:Array Value)[j]?=some u→(Y1).cell? ⟨(Y).heap.size,j,none⟩=some u:=fun j u hj=>by rw[hn,cell_new];exact hj
    have hbw:Below (Y).heap.size Y Y1:=by rw[hn];exact(Below.refl _ _).alloc (Nat.le_refl _) _
    obtain⟨nb,hnb⟩:∃ u,u=(Y).heap.size:=⟨_,rfl⟩;rw[← hnb] at hcl;rw[← hn,← hnb];have HCL:=k_ hcl;have HZ1:=k_ (HZD.out.trans (hbw.mono HZD.out.size));have HS1:=k_ (And.intro (below_cell hbw HSS.out.1) (And.intro (below_cell hbw HSS.out.2.1) (below_cell hbw HSS.out.2.2)));clear hn hcl hbw hnb;refine hK.out _ _ HS1.out (fun _=>?_);clear hK K;refine wpAnyH_ready (rs:=[1]) (by kernel_rfl) (by simp) ?_;refine(AllReadyH.cons rfl (fun K hK=>?_) AllReadyH.nil);go_simp;refine(plain_cfg Y1).mono ?_;rintro e Y2 ⟨rfl,hbw⟩;have HZ2:=k_ (HZ1.out.trans (hbw.mono HZ1.out.size));have HS2:=k_ (And.intro (below_cell hbw HS1.out.1) (And.intro (below_cell hbw HS1.out.2.1) (below_cell hbw HS1.out.2.2)));have HBW:=k_ hbw;clear hbw;refine hK.out _ _ HS2.out (fun _=>?_);clear hK K;have HCL2:=k_ (show ∀ (j:Nat) u,(#[Value.int .i64 who,.int .i64 n]:Array Value)[j]?=some u→Y2.cell? ⟨nb,j,none⟩=some u from fun j u hj=>below_cell HBW.out (HCL.out j u hj));have hes:EntSl Y2 (fun _=>True) (some ⟨nb,0,none⟩) [⟨who,n⟩]:=fun j hj=>by
     have hj1:j=0:=by have:j<1:=hj;omega
     subst hj1;exact⟨_,_,rfl,trivial,HCL2.out 0 _ rfl,HCL2.out 1 _ rfl⟩
    have pk:=pack_any Y2 _ _ pX cfgP [⟨who,n⟩] _ _ _ _ 1 (HZ5.out.v.fr (Fr.of_below HZ2.out (fun _=>False)) (fun _ _ h=>h)) (fun k hk=>by have:=HZ5.out.l;have:=HZ2.out.size;have hk:k<pb:=hk;omega) (by decide) pX_len (by simp) hes;rw[packX,← HV.out] at pk;generalize (packS pX cfgP [⟨who,n⟩]).1=pq at pk;have HPK:=k_ pk;clear pk hes;refine wpAnyH_ready (rs:=[6]) (by kernel_rfl) (by simp) ?_;refine(AllReadyH.cons rfl (fun K hK=>?_) AllReadyH.nil);go_simp;refine HPK.out.mono ?_;rintro e w9 ⟨rfl,hbw⟩;have hs9:=And.intro (below_cell hbw HS2.out.1) (And.intro (below_cell hbw HS2.out.2.1) (below_cell hbw HS2.out.2.2));have HB9:=k_ (HZ5.out.b.trans ((HZ2.out.trans (hbw.mono HZ2.out.size)).mono HZ5.out.b.size));have HS9:=k_ hs9;clear hbw hs9;refine hK.out _ _ HS9.out (fun _=>?_);clear hK K HPK;refine wpAnyH_take (i:=7) (v:=?_) rfl (by kernel_rfl) (by kernel_rfl) (by kernel_rfl) (fun _ _ _ h=>h) (Or.inl ⟨by kernel_rfl,?tq7⟩) HS9.out ?_
    case tq7=>(intro wq hq;obtain⟨q0,q1,q2⟩:=hq;go_simp;first | done | with_reducible rfl)
    refine wpAnyH_take (i:=8) (v:=?_) rfl (by kernel_rfl) (by kernel_rfl) (by kernel_rfl) (fun _ _ _ h=>h) (Or.inl ⟨by kernel_rfl,?tq8⟩) HS9.out ?_
    case tq8=>(intro wq hq;obtain⟨q0,q1,q2⟩:=hq;go_simp;first | done | with_reducible rfl)
    refine wpAnyH_take (i:=9) (v:=?_) rfl (by kernel_rfl) (by kernel_rfl) (by kernel_rfl) (fun _ _ _ h=>h) (Or.inl ⟨by kernel_rfl,?tq9⟩) HS9.out ?_
    case tq9=>(intro wq hq;obtain⟨q0,q1,q2⟩:=hq;go_simp;first | done | with_reducible rfl)
    refine wpAnyH_take (i:=10) (v:=?_) rfl (by kernel_rfl) (by kernel_rfl) (by kernel_rfl) (fun _ _ _ h=>h) (Or.inl ⟨by kernel_rfl,?tq10⟩) HS9.out ?_
    case tq10=>(intro wq hq;obtain⟨q0,q1,q2⟩:=hq;go_simp;first | done | with_reducible rfl)
    refine wpAnyH_take (i:=11) (v:=?_) rfl (by kernel_rfl) (by kernel_rfl) (by kernel_rfl) (fun _ _ _ h=>h) (Or.inl ⟨by kernel_rfl,?tq11⟩) HS9.out ?_
    case tq11=>(intro wq hq;obtain⟨q0,q1,q2⟩:=hq;go_simp;first | done | with_reducible rfl)
    refine wpAnyH_done (by kernel_rfl) ?_ _;refine NoPanic.normal ?_;have hev:=HEV.out
    cases R
    ·obtain rfl:ev=1:=hev
     go_wp2_with fail
     go_ret
     exact⟨rfl,HB9.out⟩
    ·obtain rfl:ev=0:=hev
     go_wp2_with fail
     go_ret
     exact⟨rfl,HB9.out⟩
end Go.Proofs.YtbkkhmafheimfaaGreatDoor.Tk
namespace Go.Proofs.YtbkkhmafheimfaaGreatDoor.packLimits
open Go.ChangeShapes Go.WideShapes Go.ChangeAt Go.RowKit
theorem walk (w:World) (ht:Tk.Tab w) (who:Int) (w1:(Lit.int .i64 who).wf=true) (n:Int) (w2:(Lit.int .i64 n).wf=true) (more:Int) (w3:(Lit.int .i64 more).wf=true) :
  Calls Tryz.prog 4 #[.int .i64 who,.int .i64 n,.int .i64 more] w fun e w'=>e=.returned (.bool true)∧Below w.heap.size w w' :=
 Tk.packl_any w (Tk.alive_any w ht) who w1 n w2 more w3
theorem lifted (os:Os) (started:os.Started) (H:Type) (enc:TypeId × Value→H) :
  ReturnsInHanded {} Tryz.checked os 4 .any (fun w args=>(Rows.packLimitsSpec.pre enc Tryz.prog Tryz.f4 [] false w args∧laidMetH Tryz.prog laid3 w)∧sizedMet enc Tryz.prog Tryz.f4 (OpenSpec.ofChange Rows.packLimitsSpec) false w args)
   (Rows.packLimitsSpec.post enc Tryz.prog Tryz.f4 false true false false):=by
 refine returnsInHanded_of_change_and (C:=Tryz.checked) (X:=fun w _=>laidMetH Tryz.prog laid3 w) (fun _ _ _ hh h=>h.of_heap hh) own started (by kernel_rfl) Tryz.func4
  (ChangeSpec.witness_shaped (enc:=enc) (C:=Tryz.checked) (os:=os) (X:=fun w _=>laidMetH Tryz.prog laid3 w) false (World.doorLaid Tryz.prog 24 os) #[.int .i64 0,.int .i64 0,.int .i64 0] 8 rfl (World.shaped_of_RefB (by kernel_rfl) (by kernel_rfl)) (by kernel_rfl) (by kernel_rfl) (by kernel_rfl) (door_met os _)) ?_
 intro W base args ds gs before hval0 hW _ _ hL _;have hval:∀ (j:Nat) t v,Tryz.f4.params[j]?=some t→args[j]?=some v→Value.okWide Tryz.prog W .any base t v:=hval0;have hW':=hW;obtain⟨p,q,hA0,hV,rfl,hfz,hnd⟩:=hW;have hA:DataW.TrodAll enc Tryz.prog W 0 (fun _=>true) true Tryz.f4.params.toList args.toList ds p:=hA0;rw[Tryz.params4] at hA hval;obtain⟨v0,vs0,d0,ds0,p0,q0,hargs,rfl,rfl,h0,r0⟩:=trodAll_cons hA;obtain⟨v1,vs1,d1,ds1,p1,q1,rfl,rfl,rfl,h1,r1⟩:=trodAll_cons r0;obtain⟨v2,vs2,d2,ds2,p2,q2,rfl,rfl,rfl,h2,r2⟩:=trodAll_cons r1;obtain⟨rfl,rfl,rfl⟩:=trodAll_nil r2;obtain rfl:args=#[v0,v1,v2]:=by cases args;simp_all
 obtain⟨a0,rfl,rfl,rfl,w0⟩:=open_int Tryz.underlying3 (hval 0 3 v0 rfl rfl) h0;obtain⟨a1,rfl,rfl,rfl,w1⟩:=open_int Tryz.underlying3 (hval 1 3 v1 rfl rfl) h1;obtain⟨a2,rfl,rfl,rfl,w2⟩:=open_int Tryz.underlying3 (hval 2 3 v2 rfl rfl) h2;clear hA0 hval0;simp only[List.append_nil] at hW';refine(walk W (tab_of hL) a0 w0 a1 w1 a2 w2).mono fun e W' ⟨he,hb⟩=>?_
 subst he;exact⟨_,rfl,law_post laidOut (by kernel_rfl) rfl Tryz.underlying4 hW' rfl (fun ds h=>by match ds,h with | [_,_,_],_=>rfl) hb⟩
theorem k10:(Rows.packLimitsRow.inPlace == Tryz.prog.inPlace 4)=true:=by kernel_rfl
theorem k11:(Rows.packLimitsRow.unfollowed == Tryz.prog.unfollowed 4)=true:=by kernel_rfl
theorem k12:(Rows.packLimitsRow.recurses == Tryz.prog.recurses 4)=true:=by kernel_rfl
theorem k13:(Rows.packLimitsRow.named == Tryz.prog.varsNamed 4)=true:=by kernel_rfl
theorem closed:joinedFacts Tryz.prog 4 Tryz.f4 Rows.packLimitsSpec Rows.packLimitsRow=true :=
 joined_of (by kernel_rfl) laidOut p_maps (by kernel_rfl) (by kernel_rfl) (by kernel_rfl) p_stops (by kernel_rfl) p_knobs k10 k11 k12 k13 (by kernel_rfl) (by kernel_rfl) (by kernel_rfl) (by kernel_rfl) (by kernel_rfl) (by kernel_rfl) (by kernel_rfl) (by kernel_rfl) (by kernel_rfl) p_plain (by kernel_rfl) p_heard p_enter p_lifted p_make (by kernel_rfl) (by kernel_rfl) (by kernel_rfl) (by kernel_rfl) (by kernel_rfl)
theorem over:Rows.PackLimitsSaid :=
 OpenClaim.holds_of_wide 4 Tryz.f4 rfl rfl rfl rfl rfl rfl rfl ⟨rfl,rfl,rfl,rfl,rfl⟩ rfl rfl rfl rfl rfl (by kernel_rfl) Tryz.func4 closed
  (of_decide_eq_true (by kernel_rfl)) (by unfold Func.isWrapper;first | (rw[if_pos (by decide +kernel)];kernel_rfl) | (rw[if_neg (by decide +kernel)];exact⟨rfl,rfl⟩))
  (fun os started H enc _=>lifted os started H enc)
theorem c_wf:Rows.packLimitsRow.wfByText (OpenSpec.ofChange Rows.packLimitsSpec)=true:=by kernel_rfl
theorem c_goes:false=Rows.packLimitsRow.goesBy Tryz.prog:=by kernel_rfl
theorem c_hands:([3,3,3].all fun u=>!Tryz.prog.wantsStandIn u)=true:=by kernel_rfl
theorem c_name:Tryz.prog.funcNamed Rows.packLimitsRow.func=some 4:=by kernel_rfl
theorem proved:Rows.PackLimitsCardSaid :=
 Claim7.holds_tied_plain_at .later [] [.data,.data,.data] true Rows.packLimitsCard.stood.harness false
  over (fun _ h=>by cases h) c_wf (fun _ h=>by cases h) packLimits_row_tie rfl ⟨rfl,rfl⟩ (by kernel_rfl) (by kernel_rfl)
  (fun f fn hf hfn=>by
   obtain rfl:f=4:=Option.some.inj (c_name.symm.trans hf) |>.symm
   obtain rfl:fn=Tryz.f4:=(Option.some.inj (Tryz.func4.symm.trans hfn)).symm;exact⟨p_looks,fun j t ht=>by
    rw[Tryz.params4] at ht;have hm:t ∈ [3,3,3]:=by simpa using Array.mem_of_getElem? ht
    exact(show Tryz.prog.wantsStandIn t=false by simpa using List.all_eq_true.1 c_hands t hm)⟩)
  c_goes
#print axioms proved
end Go.Proofs.YtbkkhmafheimfaaGreatDoor.packLimits
