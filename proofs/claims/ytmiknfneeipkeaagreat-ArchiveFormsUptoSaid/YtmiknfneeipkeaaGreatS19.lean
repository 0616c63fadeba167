/- Contracts of the walk, part 19. -/
import Derived.Test.YtmiknfneeipkeaaGreatS18
import Derived.Test.YtmiknfneeipkeaaGreatS17
import Derived.Test.YtmiknfneeipkeaaGreatS16
import Derived.Test.YtmiknfneeipkeaaGreatS03
open Go.Lib (hid)
namespace Go.Proofs.YtmiknfneeipkeaaGreat
open Go.RowKit Go.MapKept Go.ChangeMaps Go.Shelf Go.Sort
theorem own_cn {w:World} {g q d:Nat} {base:Nat} {L:List CN} (hr:w.ownsRow base 85 4 (.slice (some ⟨g,0,none⟩) q d) q (L.flatMap encCN)) (hq:L.length=q) {k:Nat} (hk:k<q):
 w.cell? ⟨g,k*4,none⟩=some (.int .u64 (L.getD k cn0).1.1)/\w.cell? ⟨g,k*4+1,none⟩=some (.int .i64 (L.getD k cn0).1.2)/\w.cell? ⟨g,k*4+2,none⟩=some (.int .i64 (L.getD k cn0).2.size)/\w.cell? ⟨g,k*4+3,none⟩=some (.slice (L.getD k cn0).2.A (L.getD k cn0).2.len (L.getD k cn0).2.cap):=by
 have key:∀ i,i<4->w.cell? ⟨g,k*4+i,none⟩=(encCN (L.getD k cn0))[i]? :=fun i hi=>by
  rw [hr.cellAt (k*4+i) (by omega),flat_at encCN_len cn0 L k i (by omega) hi]
 exact ⟨key 0 (by omega),key 1 (by omega),key 2 (by omega),key 3 (by omega)⟩
theorem arr_getD (L:List CN) {j:Nat} (h:j<L.length):L.toArray[j]! =L.getD j cn0:=by
 rw [getElem!_pos L.toArray j (by simpa using h),List.getD_eq_getElem?_getD,List.getElem?_eq_getElem h];simp
theorem rowC_own {w:World} {base g n cap:Nat} {xs:List CN} (h:w.ownsRow base 85 4 (.slice (some ⟨g,0,none⟩) n cap) n (xs.flatMap encCN)) (hn:xs.length=n):
 ∃ S,RowC w g S xs.toArray/\∀ (w':World) (ys:List CN),ys.length=n->RowC w' g S ys.toArray->w'.ownsRow base 85 4 (.slice (some ⟨g,0,none⟩) n cap) n (ys.flatMap encCN):=by
 have hcells:=fun k (hk:k<n)=>own_cn h hn hk;rcases h.2 with ⟨hv,_⟩ | ⟨g',cap',cur,hv,hb,hg,hnc,hcm,hcs,ht⟩
 · cases hv
 injection hv with e1 e2 e3;injection e1 with e1;injection e1 with e1;subst e1;subst e3;have hI:IsB w g 85 cur:=hg
 have hS:n*4<=cur.size:=by
  have h1:=congrArg List.length ht;rw [flat_len encCN_len,List.length_take,Array.length_toList,hn] at h1;omega
 refine ⟨cur.size,⟨cur,hI,rfl,by simpa [hn] using hS,fun j hj=>?_⟩,fun w' ys hys hr=>?_⟩
 · have hj':j<n:=by simpa [hn] using hj
   obtain ⟨c0,c1,c2,c3⟩:=hcells j hj';rw [arr_getD xs (by omega)];rw [hI.cell] at c0 c1 c2 c3;exact ⟨c0,c1,c2,c3⟩
 obtain ⟨cur',hI',hs',_,hc'⟩:=hr;refine ⟨by rw [flat_len encCN_len,hys],.inr ⟨g,cap,cur',rfl,hb,hI',hnc,hcm,by rw [hs'];exact hcs,?_⟩⟩;refine List.ext_getElem? (fun j=>?_);by_cases hj:j<n*4
 · have hq:j / 4<ys.length:=by omega
   have hdm:j / 4*4+j % 4=j:=by omega
   have h1:=flat_at encCN_len cn0 ys (j / 4) (j % 4) hq (by omega);rw [hdm] at h1;obtain ⟨c0,c1,c2,c3⟩:=hc' (j / 4) (by simpa using hq);rw [arr_getD ys hq] at c0 c1 c2 c3;rw [List.getElem?_take_of_lt hj,Array.getElem?_toList,h1];have h4:j % 4=0∨j % 4=1∨j % 4=2∨j % 4=3:=by omega
   rcases h4 with e | e | e | e
   · rw [e] at hdm |-; rw [show j=j / 4*4 by omega,c0];simp only [Nat.mul_div_cancel _ (show 0<4 by omega)];rfl
   · rw [e] at hdm |-; have:cur'[j]? =cur'[j / 4*4+1]? :=by rw [hdm]
     rw [this,c1];rfl
   · rw [e] at hdm |-; have:cur'[j]? =cur'[j / 4*4+2]? :=by rw [hdm]
     rw [this,c2];rfl
   rw [e] at hdm |-; have:cur'[j]? =cur'[j / 4*4+3]? :=by rw [hdm]
   rw [this,c3];rfl
 rw [List.getElem?_eq_none (by simp;omega),List.getElem?_eq_none (by rw [flat_len encCN_len,hys];omega)]
theorem sortCN_big (base g n cap:Nat) (xs:List CN) (w:World) (h:w.ownsRow base 85 4 (.slice (some ⟨g,0,none⟩) n cap) n (xs.flatMap encCN)) (hn:xs.length<=1000000000):
 Calls Tryz.prog 84 #[.slice (some ⟨g,0,none⟩) n cap,.func (.func 85) #[] #[]] w (SortOwn encCN 4 cmpCN base g n cap 85 xs w):=by
 have hnx:xs.length=n:=by
  have hl:=h.1;rw [flat_len encCN_len] at hl;omega
 obtain ⟨S,hR,hback⟩:=rowC_own h hnx;have hC:=stableC_any g S cap xs.toArray w hR (by simpa using hn);rw [show xs.toArray.size=n by simpa using hnx] at hC;refine stable84 _ _ n w (fun w'=>∃ ys:List CN,ys.Perm xs/\ys.Pairwise (fun a b=>ltOf cmpCN b a=false)/\w'.ownsRow base 85 4 (.slice (some ⟨g,0,none⟩) n cap) n (ys.flatMap encCN)/\w.grownBy w' (some g)) (by simp [Builtin.len_,run_underlying Tryz.underlying78,Result.andThen,goInt]) (hC.mono ?_);rintro e w' ⟨he,d',hp,hs,hr,hg⟩;have hsz:d'.size=n:=by rw [hp.1];simpa using hnx
 refine ⟨he,d'.toList,?_,?_,hback w' d'.toList (by simpa using hsz) (by simpa using hr),hg⟩
 · have h1:=hp.2.2;have e1:d'.extract 0 n=d':=by rw [<- hsz];exact Array.extract_size
   have e2:xs.toArray.extract 0 n=xs.toArray:=by
    have:n=xs.toArray.size:=by simpa using hnx.symm
    rw [this];exact Array.extract_size
   rw [e1,e2] at h1;simpa using h1
 rw [List.pairwise_iff_getElem];intro i j hi hj hij;have h1:=hs i j (Nat.zero_le _) hij (by rw [Array.length_toList,hsz] at hj;exact hj);rw [getElem!_pos d' j (by simpa using hj),getElem!_pos d' i (by simpa using hi)] at h1;simpa using h1
section
variable {b:Nat} {w0 w w':World} {l:List Ob}
theorem SW.sortCNb {v:Value} {xs:List CN} (h:SW b w0 (rowOb 85 4 v xs.length (xs.flatMap encCN)::l) w) (hn:xs.length<=1000000000):
 Calls Tryz.prog 84 #[v,.func (.func 85) #[] #[]] w (fun e w'=>e= .returned (.tuple #[])/\∃ ys:List CN,ys.Perm xs/\ys.Pairwise (fun a b=>ltOf cmpCN b a=false)/\SW b w0 (rowOb 85 4 v ys.length (ys.flatMap encCN)::l) w'):=by
 have hh:w.ownsRow 0 85 4 v xs.length (xs.flatMap encCN):=h.get 0 rfl;by_cases h0:v= .slice none 0 0
 · subst h0;refine (sortCN_none none 0 w).mono ?_;rintro e w' ⟨rfl,rfl⟩
   have hx:xs=[]:=by
    rcases hh.2 with ⟨_,h2⟩ | ⟨g,cap,cur,hv,_⟩
    · exact List.eq_nil_of_length_eq_zero h2
    cases hv
   subst hx;exact ⟨rfl,[],List.Perm.refl _,List.Pairwise.nil,h⟩
 obtain ⟨g,cap,rfl⟩:∃ g cap,v= .slice (some ⟨g,0,none⟩) xs.length cap:=by
  rcases hh.2 with ⟨hv,_⟩ | ⟨g,cap,cur,hv,_⟩
  · exact absurd hv h0
  exact ⟨g,cap,hv⟩
 refine (sortCN_big 0 g _ cap xs w hh hn).mono ?_;rintro e w' ⟨rfl,ys,hp,hs,hown,hg⟩;refine ⟨rfl,ys,hp,hs,?_⟩;have:=h.row (w':=w') 0 rfl hown hg (.inl rfl);rw [hp.length_eq];exact this
end
end Go.Proofs.YtmiknfneeipkeaaGreat
namespace Go.Proofs.YtmiknfneeipkeaaGreat
open Go.RowKit Go.MapKept Go.ChangeMaps Go.Shelf Go.Sort
attribute [local go_sem] wext_cell
theorem info85:(Tryz.prog.info? 85).map (fun i=>(i.zero,i.size,i.bytes))=some (some (.agg #[.int .u64 0,.int .i64 0,.int .i64 0,.slice none 0 0]),4,48):=by kernel_rfl
theorem four_new (W:World) (x y z u:Value) (t:TypeId) (H:Nat) (hH:W.heap.size=H):∀ j v,[x,y,z,u][j]? =some v->(W.alloc (.cells #[x,y,z,u] t)).cell? ((⟨H,0,none⟩:Addr).add j)=some v:=by
 subst hH;intro j v hu;have hc:=fun i=>(IsB.new W t #[x,y,z,u]).cell i;match j,hu with
 | 0,hu=>simp at hu;subst hu;simp [Addr.add,hc]
 | 1,hu=>simp at hu;subst hu;simp [Addr.add,hc]
 | 2,hu=>simp at hu;subst hu;simp [Addr.add,hc]
 | 3,hu=>simp at hu;subst hu;simp [Addr.add,hc]
 | j+4,hu=>simp at hu
theorem Whole_ok (x:Nat) (m:Man) (A:Option Addr) (c:Nat) (w:World) (hr:RdID w x A m.ids) (hn:m.ids.length<=9223372036854775807) (hok:∀ i∈m.ids,okID i) (he:manE m=0):
 Calls Tryz.prog 31 #[.agg #[.int .i64 m.size,.slice A m.ids.length c]] w (Gives (.tuple #[.agg #[.int .u64 (keyM m).1,.int .i64 (keyM m).2],.int .i64 0]) w):=
 (Whole_any x m A c w hr hn hok).mono (fun e w' ⟨h1,h2⟩=>⟨by rw [h1,if_pos he,he];rfl,h2⟩)
def mpOf (rs:List MR) (ms:List Man) (k:Nat):List MP:=(List.range k).map (fun j=>(rs.getD j mr0,ms.getD j man0))
theorem mpOf_next (rs:List MR) (ms:List Man) (k:Nat):mpOf rs ms (k+1)=mpOf rs ms k++[(rs.getD k mr0,ms.getD k man0)]:=by simp [mpOf,List.range_succ]
theorem mpOf_len (rs:List MR) (ms:List Man) (k:Nat):(mpOf rs ms k).length=k:=by simp [mpOf]
theorem mpOf_snd (rs:List MR) (ms:List Man):(mpOf rs ms ms.length).map (·.2)=ms:=by
 refine List.ext_getElem (by simp [mpOf]) (fun j h1 h2=>?_);simp [mpOf,List.getD_eq_getElem?_getD,List.getElem?_eq_getElem h2]
section
variable {b:Nat} {w0 w w':World} {l:List Ob}
abbrev ConP (ms:List Man) (b:Nat) (w0:World) (l:List Ob) (e:Ending) (w':World):Prop:=
 (OneM ms/\∃ (Y:List MP) (D:Option Addr) (d:Nat),ConM ms (Y.map (·.2))/\e= .returned (.tuple #[.slice D Y.length d,.bool true])/\SW b w0 (rowOb 85 4 (.slice D Y.length d) Y.length ((Y.map cnOf).flatMap encCN)::msOb (Y.map (·.1)) (Y.map (·.2))::l) w')∨
 (¬ OneM ms/\e= .returned (.tuple #[.slice none 0 0,.bool false])/\SW b w0 l w')
set_option maxRecDepth 100000 in
set_option maxHeartbeats 8000000 in
theorem contentsOf_any (h:SW b w0 l w) {A:Option Addr} {rs:List MR} {ms:List Man} (hm:imOb A rs ms∈l) (hv:∀ m∈ms,manE m=0) (hn:ms.length<=1000000) (hok:∀ m∈ms,∀ i∈m.ids,okID i) (c:Nat):
 Calls Tryz.prog 40 #[.slice A ms.length c] w (ConP ms b w0 l):=by
 have HM:=hid hm;have HV:=hid hv;have HOK:=hid hok;have S1:=hid (h.newRow 85 4);clear h hm hv hok;obtain ⟨i1,gi,gz0,gz1,gz2⟩:=info_parts info85;go_enter Tryz.func40,Tryz.ntmps40;go_wp2_with fail
 go_loopw [4,15] (fun s4 s15 wr=>∃ k:Nat,k<=ms.length/\s15= .int .i64 (k:Int)/\SW b w0 (rowOb 85 4 s4 k (((mpOf rs ms k).map cnOf).flatMap encCN)::l) wr) (fun _ s15 _=>ms.length-(intOf s15).toNat)
 case atStart=>exact ⟨0,Nat.zero_le _,rfl,S1.out⟩
 obtain ⟨k,hk,rfl,hs⟩:=hrel;have S2:=hid hs;clear hs S1;by_cases hlt:k<ms.length
 · obtain ⟨h1,h2,h3⟩:=S2.out.1.holds (imOb A rs ms) (List.mem_cons_of_mem _ HM.out);obtain ⟨g,o,rfl,hgB,_,hc⟩:=h1 (by omega);obtain ⟨l1,l2,l3,l4⟩:=h3 k hlt;have hmem:=getD_mem ms man0 k hlt;have HP:=hid (mpOf_next rs ms k);obtain ⟨m,HMK⟩:∃ m,Hid (ms.getD k man0=m):=⟨_,rfl⟩;obtain ⟨⟨rz,rA,rl,rc⟩,HR⟩:∃ r,Hid (rs.getD k mr0=r):=⟨_,rfl⟩;rw [HMK.out] at l1 l2 l4 hmem HP;rw [HR.out] at l1 l2 l3 l4 HP;simp only at l1 l2 l3 l4;subst l1 l2;have hvm:=HV.out m hmem;have hil:m.ids.length<=9223372036854775807:=by have:=manE_len hvm;omega
   have c0:wr.cell? ⟨g,o+k*2,none⟩=some (.int .i64 m.size):=hc k (by omega) 0 _ (by rw [HR.out];rfl);have c1:wr.cell? ⟨g,o+k*2+1,none⟩=some (.slice rA m.ids.length rc):=hc k (by omega) 1 _ (by rw [HR.out];rfl);have S3:=hid (S2.out.newCell 33 #[.int .i64 m.size,.slice rA m.ids.length rc]);have HCK:=hid (Whole_ok _ m rA rc _ (rd_top (l4.alloc (.cells #[.int .i64 m.size,.slice rA m.ids.length rc] 33))) hil (HOK.out m hmem) hvm);obtain ⟨k1,k2,HKM⟩:∃ k1 k2,Hid (keyM m=(k1,k2)):=⟨_,_,rfl⟩;rw [HKM.out] at HCK;clear h1 h2 h3 hc l4 hmem S2 hvm;go_wp2_with (go_at_call 31;(with_reducible refine HCK.out.mono ?_);refine halt_ ?_)
   rintro e w2 ⟨rfl,hb2⟩;have S4:=hid (S3.out.on hb2);have d0:w2.cell? ⟨wr.heap.size,0,none⟩=some (.int .i64 m.size):=(S4.out.cell 0 rfl).cell 0;have d1:w2.cell? ⟨wr.heap.size,1,none⟩=some (.slice rA m.ids.length rc):=(S4.out.cell 0 rfl).cell 1;have hl2:wr.heap.size<w2.heap.size:=(S4.out.cell 0 rfl).lt;clear hb2 HCK S3 c0 c1;have S5:=hid ((S4.out.newCell 36 #[.int .u64 k1,.int .i64 k2]).alloc (.cells #[.int .u64 k1,.int .i64 k2,.int .i64 m.size,.slice rA m.ids.length rc] 85));go_wp2_with (at_builtin;(refine wpList_rowS (t:=78) (e:=85) (size:=4) (bytes:=48) (i:=i1) S5.out 2 rfl (by rfl) (.tmp 24) (.tmp 28) (by rfl) Tryz.underlying78 gi gz0 gz1 gz2 rfl (by omega) (by rfl) ⟨w2.heap.size+1,0,none⟩ 1 [.int .u64 k1,.int .i64 k2,.int .i64 m.size,.slice rA m.ids.length rc] (by rfl) rfl (four_new _ _ _ _ _ _ _ (by simp)) (encCN_one ((k1,k2),⟨m.size,rA,m.ids.length,rc⟩)) (by unfold maxLen;omega) (by omega) ?_);refine halt_ ?_)
   intro v4 w4 s4
   have S6:Hid (SW b w0 (rowOb 85 4 v4 (k+1) (((mpOf rs ms (k+1)).map cnOf).flatMap encCN)::l) w4):=by
    rw [Hid,HP.out,List.map_append,List.flatMap_append];have:=s4.tail.tail;simp only [List.map_cons,List.map_nil,List.flatMap_cons,List.flatMap_nil,List.append_nil,cnOf,HKM.out,encCN];exact this
   clear s4 S4 S5 d0 d1;go_wp2_with fail
   go_roundw
   case rel=>exact ⟨k+1,by omega,by go_num,S6.out⟩
   simp [intOf];omega
 obtain rfl:k=ms.length:=by omega
 obtain ⟨D,dc,rfl⟩:=own_slL (S2.out.get 0 rfl);have hxl:((mpOf rs ms ms.length).map cnOf).length=ms.length:=by rw [List.length_map,mpOf_len]
 have HSO:=hid (SW.sortCNb (v:=.slice D ms.length dc) (xs:=(mpOf rs ms ms.length).map cnOf) (by rw [hxl];exact S2.out) (by omega));clear S2;go_wp2_with (go_at_call 84;(with_reducible refine HSO.out.mono ?_);refine halt_ ?_)
 rintro e w2 ⟨rfl,ys,hp,hso,s3⟩;obtain ⟨Z,hz1,rfl⟩:=perm_map_inv cnOf hp.symm _ rfl;have hzl:Z.length=ms.length:=by rw [hz1.length_eq,mpOf_len]
 have HZS:Hid (SortM Z):=by
  have:=List.pairwise_map.1 hso;refine this.imp (fun {a b} h=>?_);rw [<- lt_cmpID];exact h
 have HZP:Hid ((Z.map (·.2)).Perm ms):=by
  have:=hz1.map (·.2);rw [mpOf_snd] at this;exact this
 have HZM:Hid (∀ p∈Z,∃ j,j<ms.length/\p=(rs.getD j mr0,ms.getD j man0)):=fun p hp=>by
  obtain ⟨j,hj,e⟩:=List.mem_map.1 (hz1.mem_iff.1 hp);exact ⟨j,List.mem_range.1 hj,e.symm⟩
 rw [List.length_map,hzl] at s3;have S3:=hid (SW.front (pre:=[_,_]) (s3.newRow 85 4) [0,1] (n:=2) rfl (by decide));clear s3 HSO hp hso hz1 hxl;rw [<- hzl] at S3 |-; have hzn:Z.length<=1000000:=by omega
 clear hzl;go_wp2_with fail
 go_loopw [9,35] (fun s9 s35 wr=>∃ (k:Nat) (B:Option Addr) (bc:Nat),k<=Z.length/\s35= .int .i64 (k:Int)/\s9= .slice B (ddM (Z.take k)).length bc/\Hid (GoodM (Z.take k))/\SW b w0 (rowOb 85 4 (.slice B (ddM (Z.take k)).length bc) (ddM (Z.take k)).length (((ddM (Z.take k)).map cnOf).flatMap encCN)::rowOb 85 4 (.slice D Z.length dc) Z.length ((Z.map cnOf).flatMap encCN)::l) wr) (fun _ s35 _=>Z.length-(intOf s35).toNat)
 case atStart=>exact ⟨0,none,0,Nat.zero_le _,rfl,rfl,(fun p hp=>by simp at hp),S3.out⟩
 obtain ⟨k,B,bc,hk,rfl,rfl,HG,hs⟩:=hrel;have S4:=hid hs;clear hs S3;have hdl:=ddM_len (Z.take k);rw [List.length_take] at hdl;by_cases hlt:k<Z.length
 · obtain ⟨p,HPK⟩:∃ p,Hid (Z.getD k (mr0,man0)=p):=⟨_,rfl⟩;have HTK:Hid (Z.take (k+1)=Z.take k++[p]):=by rw [Hid,take_snoc _ (mr0,man0) _ hlt,HPK.out]
   have hpz:p∈Z:=by rw [<- HPK.out];exact getD_mem _ _ _ hlt
   obtain ⟨j,hj,hpj⟩:=HZM.out p hpz;have hM:=S4.out.1.holds (imOb A rs ms) (.tail _ (.tail _ HM.out));obtain ⟨l1,l2,l3,l4⟩:=hM.2.2 j hj;have hmem:=getD_mem ms man0 j hj;have hm2:rs.getD j mr0=p.1:=by rw [hpj]
   have hm3:ms.getD j man0=p.2:=by rw [hpj]
   rw [hm2] at l1 l2 l3 l4;rw [hm3] at l1 l2 l4 hmem;obtain ⟨⟨rz,rA,rl,rc⟩,m⟩:=p;simp only at l1 l2 l3 l4 hmem;subst l1 l2;have hsp:SortM (Z.take k++[(⟨m.size,rA,m.ids.length,rc⟩,m)]):=by rw [<- HTK.out];exact HZS.out.sublist (List.take_sublist _ _)
   have HSP:=hid hsp;have hil:m.ids.length<=9223372036854775807:=by have:=manE_len (HV.out m hmem);omega
   obtain ⟨k1,k2,HKM⟩:∃ k1 k2,Hid (keyM m=(k1,k2)):=⟨_,_,rfl⟩;obtain ⟨gD,cD,e7⟩:=own_some (S4.out.get 1 rfl) (by omega);injection e7 with e7 e8 e9;clear e8 e9;subst e7;have hrow:wr.ownsRow 0 85 4 (.slice (some ⟨gD,0,none⟩) Z.length dc) Z.length ((Z.map cnOf).flatMap encCN):=S4.out.get 1 rfl
   have hcn:(Z.map cnOf).getD k cn0=((k1,k2),⟨m.size,rA,m.ids.length,rc⟩):=by
    have:(Z.map cnOf).getD k cn0=cnOf (Z.getD k (mr0,man0)):=by simp [List.getD_eq_getElem?_getD,List.getElem?_eq_getElem hlt]
    rw [this,HPK.out,cnOf,HKM.out]
   have cell:∀ a v,a<4->(encCN ((k1,k2),(⟨m.size,rA,m.ids.length,rc⟩:MR)))[a]? =some v->wr.cell? ⟨gD,k*4+a,none⟩=some v:=fun a v ha hv=>by
    rw [hrow.cellAt (k*4+a) (by omega),flat_at encCN_len cn0 _ k a (by rw [List.length_map];exact hlt) ha,hcn];exact hv
   have c0:wr.cell? ⟨gD,k*4,none⟩=some (.int .u64 k1):=cell 0 _ (by omega) rfl;have c1:wr.cell? ⟨gD,k*4+1,none⟩=some (.int .i64 k2):=cell 1 _ (by omega) rfl;have c2:wr.cell? ⟨gD,k*4+2,none⟩=some (.int .i64 m.size):=cell 2 _ (by omega) rfl;have c3:wr.cell? ⟨gD,k*4+3,none⟩=some (.slice rA m.ids.length rc):=cell 3 _ (by omega) rfl;have S5:=hid (S4.out.newCell 85 #[.int .u64 k1,.int .i64 k2,.int .i64 m.size,.slice rA m.ids.length rc]);have HRP:Hid (RdID wr wr.heap.size rA m.ids):=l4;have HMEM:=hid hmem;clear hM hm2 hm3 l4 cell hrow hcn hmem hsp;go_upto_region 14 with fail
   obtain ⟨Dk,HDK⟩:∃ x,Hid (ddM (Z.take k)=x):=⟨_,rfl⟩;rw [HDK.out] at S5 hdl |-; obtain ⟨q,HQ⟩:∃ x,Hid (Dk.length=x):=⟨_,rfl⟩;rw [HQ.out] at S5 hdl |-; obtain ⟨w3,HW3⟩:∃ W,Hid (wr.alloc (.cells #[.int .u64 k1,.int .i64 k2,.int .i64 m.size,.slice rA m.ids.length rc] 85)=W):=⟨_,rfl⟩;have HRP3:Hid (RdID w3 wr.heap.size rA m.ids):=by rw [Hid, <- HW3.out];exact HRP.out.alloc _
   rw [HW3.out] at S5 |-; have b0:=(S5.out.cell 0 rfl).cell 0;have b1:=(S5.out.cell 0 rfl).cell 1;have hlX:=(S5.out.cell 0 rfl).lt;clear HW3 S4 c0 c1 c2 c3 HRP;have HDIR:=hid True.intro;by_cases hq:0<q
   · have hqd:decide (0<q)=true:=decide_eq_true hq;obtain ⟨gB,cB,e7⟩:=own_some (S5.out.get 1 rfl) (by omega);injection e7 with e7 e8 e9;clear e8 e9;subst e7;have hrowB:w3.ownsRow 0 85 4 (.slice (some ⟨gB,0,none⟩) q bc) q ((Dk.map cnOf).flatMap encCN):=S5.out.get 1 rfl;obtain ⟨pl,HPL⟩:∃ x,Hid (Dk.getD (q-1) (mr0,man0)=x):=⟨_,rfl⟩
     have hlast:Dk.getLast? =some pl:=by
      rw [List.getLast?_eq_getElem?, HQ.out, <- HPL.out,List.getD_eq_getElem?_getD,List.getElem?_eq_getElem (by rw [HQ.out];omega)];rfl
     have HLAST:=hid hlast;have hplz:pl∈Z:=List.mem_of_mem_take (ddM_sub (Z.take k) pl (by rw [HDK.out];exact List.mem_of_getLast? hlast));obtain ⟨j2,hj2,hpj2⟩:=HZM.out pl hplz;have hM:=S5.out.1.holds (imOb A rs ms) (.tail _ (.tail _ (.tail _ HM.out)));obtain ⟨l1,l2,l3',l4⟩:=hM.2.2 j2 hj2;have hmem:=getD_mem ms man0 j2 hj2;have hm2:rs.getD j2 mr0=pl.1:=by rw [hpj2]
     have hm3:ms.getD j2 man0=pl.2:=by rw [hpj2]
     rw [hm2] at l1 l2 l3' l4;rw [hm3] at l1 l2 l4 hmem;obtain ⟨⟨sz,sA,sl,sc⟩,m'⟩:=pl;simp only at l1 l2 l3' l4 hmem;subst l1 l2;have hil':m'.ids.length<=9223372036854775807:=by have:=manE_len (HV.out m' hmem);omega
     obtain ⟨a1,a2,HKA⟩:∃ a1 a2,Hid (keyM m'=(a1,a2)):=⟨_,_,rfl⟩
     have hcn:(Dk.map cnOf).getD (q-1) cn0=((a1,a2),⟨m'.size,sA,m'.ids.length,sc⟩):=by
      have:(Dk.map cnOf).getD (q-1) cn0=cnOf (Dk.getD (q-1) (mr0,man0)):=by simp [List.getD_eq_getElem?_getD,List.getElem?_eq_getElem (show q-1<Dk.length by rw [HQ.out];omega)]
      rw [this,HPL.out,cnOf,HKA.out]
     have cellB:∀ a v,a<4->(encCN ((a1,a2),(⟨m'.size,sA,m'.ids.length,sc⟩:MR)))[a]? =some v->w3.cell? ⟨gB,(q-1)*4+a,none⟩=some v:=fun a v ha hv=>by
      rw [hrowB.cellAt ((q-1)*4+a) (by omega),flat_at encCN_len cn0 _ (q-1) a (by rw [List.length_map,HQ.out];omega) ha,hcn];exact hv
     have p0:w3.cell? ⟨gB,(q-1)*4,none⟩=some (.int .u64 a1):=cellB 0 _ (by omega) rfl;have p1:w3.cell? ⟨gB,(q-1)*4+1,none⟩=some (.int .i64 a2):=cellB 1 _ (by omega) rfl;have p3:w3.cell? ⟨gB,(q-1)*4+3,none⟩=some (.slice sA m'.ids.length sc):=cellB 3 _ (by omega) rfl;have P3:=hid p3;have hlB:gB<w3.heap.size:=(hrowB.lt gB rfl).2;have ek:((q:Int)-1).toNat=q-1:=by omega
     have HRQ:Hid (RdID w3 w3.heap.size sA m'.ids):=l4;have HMEM2:=hid hmem;clear hM hm2 hm3 l4 cellB hcn hmem hlast p3;by_cases h1:a1=k1
     · have h1:=h1.symm;subst h1;by_cases h2:a2=k2
       · have h2:=h2.symm;subst h2;refine wp_region_ext (by kernel_rfl) (by kernel_rfl) ?_;repeat (go_big_quiet_step (fail))
         refine wpQuiet_nil ?_;intro w4 hb4;have S6:=hid (S5.out.on hb4);have hlX4:=(S6.out.cell 0 rfl).lt;have hlB4:gB<w4.heap.size:=Nat.lt_of_lt_of_le hlB hb4.size;have p3:w4.cell? ⟨gB,(q-1)*4+3,none⟩=some (.slice sA m'.ids.length sc):=(hb4.cell hlB).trans P3.out;have b3:=(S6.out.cell 0 rfl).cell 3;have HEQ:=hid (fun (W:World) (hb:Below w4.heap.size w4 W)=>Equal_any _ _ m'.ids m.ids sA rA sc rc W ((HRQ.out.on hb4).on hb) ((HRP3.out.on hb4).on hb) hil' hil);have HKK:Hid (keyM m'=keyM m):=HKA.out.trans HKM.out.symm;clear hb4 S5 b0 b1 p0 p1 hlX hlB;obtain ⟨v,hv⟩:∃ v,decide (m'.ids=m.ids)=v:=⟨_,rfl⟩;rw [hv] at HEQ;go_upto_region 15 with fail
         refine wp_region_ext (by kernel_rfl) (by kernel_rfl) ?_;repeat (go_big_quiet_step ((go_at_call 86;exact ext_call (HEQ.out _ (wext_below _)))))
         refine wpQuiet_nil ?_;intro w5 hb5;have S7:=hid (S6.out.on hb5);clear hb5 S6 p3 b3 HEQ;cases v with
         | true=>
          have hids:=of_decide_eq_true hv;have HNEW:=hid (good_same (p:=(⟨m.size,rA,m.ids.length,rc⟩,m)) HG.out (by rw [HDK.out];exact HLAST.out) HKK.out hids);have HL8:Hid (ddM (Z.take (k+1))=Dk):=by rw [Hid,HTK.out,HNEW.out.1,HDK.out]
          clear hv hids;go_wp2_with fail
          go_roundw
          case rel=>exact ⟨k+1,some ⟨gB,0,none⟩,bc,by omega,by go_num,by rw [HL8.out,HQ.out],by rw [HTK.out];exact HNEW.out.2,by rw [HL8.out,HQ.out];exact S7.out.tail⟩
          simp [intOf];omega
         | false=>
          have HNO:Hid (¬ OneM ms):=fun ho=>of_decide_eq_false hv (ho m' HMEM2.out m HMEM.out HKK.out);clear hv;go_wp2_with fail
          go_ret2;exact .inr ⟨HNO.out,rfl,S7.out.tail.tail.tail⟩
       have hne:(a2==k2)=false:=by rw [beq_eq_false_iff_ne];exact h2
       have HNK:Hid (keyM m'≠keyM m):=by rw [Hid,HKA.out,HKM.out];exact fun h=>h2 (by injection h)
       clear h2;refine wp_region_ext (by kernel_rfl) (by kernel_rfl) ?_;repeat (go_big_quiet_step (fail))
       refine wpQuiet_nil ?_;intro w4 hb4;clear b0 b1 hlX p0 p1 hlB;have S6:=hid (S5.out.on hb4);clear hb4 S5 HDIR;have b0:=(S6.out.cell 0 rfl).cell 0;have b1:=(S6.out.cell 0 rfl).cell 1;have b2:=(S6.out.cell 0 rfl).cell 2;have b3:=(S6.out.cell 0 rfl).cell 3;have HNEW:=hid (good_new HSP.out HG.out (fun q' hq'=>by rw [HDK.out,HLAST.out] at hq';injection hq' with hq';subst hq';exact HNK.out));have S7:=hid (S6.out.alloc (.cells #[.int .u64 k1,.int .i64 k2,.int .i64 m.size,.slice rA m.ids.length rc] 85));go_wp2_with (at_builtin;(refine wpList_rowS (t:=78) (e:=85) (size:=4) (bytes:=48) (i:=i1) S7.out 1 rfl (by rfl) (.tmp 66) (.tmp 68) (by rfl) Tryz.underlying78 gi gz0 gz1 gz2 rfl (by omega) (by rfl) ⟨w4.heap.size,0,none⟩ 1 [.int .u64 k1,.int .i64 k2,.int .i64 m.size,.slice rA m.ids.length rc] (by rfl) rfl (four_new _ _ _ _ _ _ _ rfl) (encCN_one ((k1,k2),⟨m.size,rA,m.ids.length,rc⟩)) (by unfold maxLen;omega) (by omega) ?_);refine halt_ ?_)
       intro v8 w8 s8;obtain ⟨g8,c8,rfl⟩:=own_some (s8.get 1 rfl) (by omega);have HL8:Hid ((ddM (Z.take (k+1))).length=q+1):=by rw [Hid,HTK.out,HNEW.out.1,List.length_append,HDK.out,HQ.out];rfl
       have S8:Hid (SW b w0 (rowOb 85 4 (.slice (some ⟨g8,0,none⟩) (ddM (Z.take (k+1))).length c8) (ddM (Z.take (k+1))).length (((ddM (Z.take (k+1))).map cnOf).flatMap encCN)::rowOb 85 4 (.slice (some ⟨gD,0,none⟩) Z.length dc) Z.length ((Z.map cnOf).flatMap encCN)::l) w8):=by
        rw [Hid,HL8.out,HTK.out,HNEW.out.1,List.map_append,List.flatMap_append,HDK.out];have:=s8.tail;simp only [List.map_cons,List.map_nil,List.flatMap_cons,List.flatMap_nil,List.append_nil,cnOf,HKM.out,encCN];exact this
       clear s8 S6 S7 b0 b1 b2 b3;go_wp2_with fail
       go_roundw
       case rel=>exact ⟨k+1,some ⟨g8,0,none⟩,c8,by omega,by go_num,by rw [HL8.out],by rw [HTK.out];exact HNEW.out.2,S8.out⟩
       simp [intOf];omega
     have hne:(a1==k1)=false:=by rw [beq_eq_false_iff_ne];exact h1
     have HNK:Hid (keyM m'≠keyM m):=by rw [Hid,HKA.out,HKM.out];exact fun h=>h1 (by injection h)
     clear h1;refine wp_region_ext (by kernel_rfl) (by kernel_rfl) ?_;repeat (go_big_quiet_step (fail))
     refine wpQuiet_nil ?_;intro w4 hb4;clear b0 b1 hlX p0 p1 hlB;have S6:=hid (S5.out.on hb4);clear hb4 S5 HDIR;have b0:=(S6.out.cell 0 rfl).cell 0;have b1:=(S6.out.cell 0 rfl).cell 1;have b2:=(S6.out.cell 0 rfl).cell 2;have b3:=(S6.out.cell 0 rfl).cell 3;have HNEW:=hid (good_new HSP.out HG.out (fun q' hq'=>by rw [HDK.out,HLAST.out] at hq';injection hq' with hq';subst hq';exact HNK.out));have S7:=hid (S6.out.alloc (.cells #[.int .u64 k1,.int .i64 k2,.int .i64 m.size,.slice rA m.ids.length rc] 85));go_wp2_with (at_builtin;(refine wpList_rowS (t:=78) (e:=85) (size:=4) (bytes:=48) (i:=i1) S7.out 1 rfl (by rfl) (.tmp 66) (.tmp 68) (by rfl) Tryz.underlying78 gi gz0 gz1 gz2 rfl (by omega) (by rfl) ⟨w4.heap.size,0,none⟩ 1 [.int .u64 k1,.int .i64 k2,.int .i64 m.size,.slice rA m.ids.length rc] (by rfl) rfl (four_new _ _ _ _ _ _ _ rfl) (encCN_one ((k1,k2),⟨m.size,rA,m.ids.length,rc⟩)) (by unfold maxLen;omega) (by omega) ?_);refine halt_ ?_)
     intro v8 w8 s8;obtain ⟨g8,c8,rfl⟩:=own_some (s8.get 1 rfl) (by omega);have HL8:Hid ((ddM (Z.take (k+1))).length=q+1):=by rw [Hid,HTK.out,HNEW.out.1,List.length_append,HDK.out,HQ.out];rfl
     have S8:Hid (SW b w0 (rowOb 85 4 (.slice (some ⟨g8,0,none⟩) (ddM (Z.take (k+1))).length c8) (ddM (Z.take (k+1))).length (((ddM (Z.take (k+1))).map cnOf).flatMap encCN)::rowOb 85 4 (.slice (some ⟨gD,0,none⟩) Z.length dc) Z.length ((Z.map cnOf).flatMap encCN)::l) w8):=by
      rw [Hid,HL8.out,HTK.out,HNEW.out.1,List.map_append,List.flatMap_append,HDK.out];have:=s8.tail;simp only [List.map_cons,List.map_nil,List.flatMap_cons,List.flatMap_nil,List.append_nil,cnOf,HKM.out,encCN];exact this
     clear s8 S6 S7 b0 b1 b2 b3;go_wp2_with fail
     go_roundw
     case rel=>exact ⟨k+1,some ⟨g8,0,none⟩,c8,by omega,by go_num,by rw [HL8.out],by rw [HTK.out];exact HNEW.out.2,S8.out⟩
     simp [intOf];omega
   have hq0:q=0:=by omega
   have hqd:decide (0<q)=false:=by simp [hq0]
   have hnil:Dk=[]:=List.eq_nil_of_length_eq_zero (by rw [HQ.out,hq0]);have HNIL:=hid hnil;clear hq hq0 hnil;refine wp_region_ext (by kernel_rfl) (by kernel_rfl) ?_;repeat (go_big_quiet_step (fail))
   refine wpQuiet_nil ?_;intro w4 hb4;clear b0 b1 hlX;have S6:=hid (S5.out.on hb4);clear hb4 S5 HDIR;have b0:=(S6.out.cell 0 rfl).cell 0;have b1:=(S6.out.cell 0 rfl).cell 1;have b2:=(S6.out.cell 0 rfl).cell 2;have b3:=(S6.out.cell 0 rfl).cell 3;have HNEW:=hid (good_new HSP.out HG.out (fun q' hq'=>by rw [HDK.out,HNIL.out] at hq';cases hq'));have S7:=hid (S6.out.alloc (.cells #[.int .u64 k1,.int .i64 k2,.int .i64 m.size,.slice rA m.ids.length rc] 85));go_wp2_with (at_builtin;(refine wpList_rowS (t:=78) (e:=85) (size:=4) (bytes:=48) (i:=i1) S7.out 1 rfl (by rfl) (.tmp 66) (.tmp 68) (by rfl) Tryz.underlying78 gi gz0 gz1 gz2 rfl (by omega) (by rfl) ⟨w4.heap.size,0,none⟩ 1 [.int .u64 k1,.int .i64 k2,.int .i64 m.size,.slice rA m.ids.length rc] (by rfl) rfl (four_new _ _ _ _ _ _ _ rfl) (encCN_one ((k1,k2),⟨m.size,rA,m.ids.length,rc⟩)) (by unfold maxLen;omega) (by omega) ?_);refine halt_ ?_)
   intro v8 w8 s8;obtain ⟨g8,c8,rfl⟩:=own_some (s8.get 1 rfl) (by omega);have HL8:Hid ((ddM (Z.take (k+1))).length=q+1):=by rw [Hid,HTK.out,HNEW.out.1,List.length_append,HDK.out,HQ.out];rfl
   have S8:Hid (SW b w0 (rowOb 85 4 (.slice (some ⟨g8,0,none⟩) (ddM (Z.take (k+1))).length c8) (ddM (Z.take (k+1))).length (((ddM (Z.take (k+1))).map cnOf).flatMap encCN)::rowOb 85 4 (.slice (some ⟨gD,0,none⟩) Z.length dc) Z.length ((Z.map cnOf).flatMap encCN)::l) w8):=by
    rw [Hid,HL8.out,HTK.out,HNEW.out.1,List.map_append,List.flatMap_append,HDK.out];have:=s8.tail;simp only [List.map_cons,List.map_nil,List.flatMap_cons,List.flatMap_nil,List.append_nil,cnOf,HKM.out,encCN];exact this
   clear s8 S6 S7 b0 b1 b2 b3;go_wp2_with fail
   go_roundw
   case rel=>exact ⟨k+1,some ⟨g8,0,none⟩,c8,by omega,by go_num,by rw [HL8.out],by rw [HTK.out];exact HNEW.out.2,S8.out⟩
   simp [intOf];omega
 obtain rfl:k=Z.length:=by omega
 rw [List.take_length] at S4 HG hdl |-; have hcon:=con_of_sorted HV.out HZP.out HZS.out HG.out;have HCON:=hid hcon;have hM:=S4.out.1.holds (imOb A rs ms) (.tail _ (.tail _ HM.out))
 have S5:Hid (SW b w0 (rowOb 85 4 (.slice B (ddM Z).length bc) (ddM Z).length (((ddM Z).map cnOf).flatMap encCN)::msOb ((ddM Z).map (·.1)) ((ddM Z).map (·.2))::l) wr):=by
  have hlk:∀ j,j<(ddM Z).length->∃ i,i<ms.length/\(ddM Z).getD j (mr0,man0)=(rs.getD i mr0,ms.getD i man0):=fun j hj=>HZM.out _ (ddM_sub Z _ (getD_mem _ _ _ hj));have e1:∀ j,j<(ddM Z).length->((ddM Z).map (·.1)).getD j mr0=((ddM Z).getD j (mr0,man0)).1:=fun j hj=>by simp [List.getD_eq_getElem?_getD,List.getElem?_eq_getElem hj]
  have e2:∀ j,j<(ddM Z).length->((ddM Z).map (·.2)).getD j man0=((ddM Z).getD j (mr0,man0)).2:=fun j hj=>by simp [List.getD_eq_getElem?_getD,List.getElem?_eq_getElem hj]
  refine SW.front (pre:=[_,_]) (SW.again (o':=msOb ((ddM Z).map (·.1)) ((ddM Z).map (·.2))) (SW.sub S4.out (l':=rowOb 85 4 (.slice B (ddM Z).length bc) (ddM Z).length (((ddM Z).map cnOf).flatMap encCN)::l) (.cons_cons _ (.cons _ (List.Sublist.refl _)))) (.tail _ HM.out) (fun _ h=>h) ⟨by simp,fun j hj=>?_⟩ (fun _ h=>h) (fun i hi=>?_)) [1,0] (n:=2) rfl (by decide)
  · have hj:j<(ddM Z).length:=by simpa using hj
    obtain ⟨i,hi,e⟩:=hlk j hj;rw [e1 j hj,e2 j hj,e];exact hM.2.2 i hi
  obtain ⟨j,hj,hp,o,ho⟩:=hi;have hj:j<(ddM Z).length:=by simpa using hj
  obtain ⟨i',hi',e⟩:=hlk j hj;rw [e2 j hj,e] at hp;rw [e1 j hj,e] at ho;exact .inr ⟨i',hi',hp,o,ho⟩
 clear S4 hM hcon;go_wp2_with fail
 go_ret2;exact .inl ⟨HCON.out.1,ddM Z,B,bc,HCON.out.2,rfl,S5.out⟩
end
end Go.Proofs.YtmiknfneeipkeaaGreat
namespace Go.Proofs.YtmiknfneeipkeaaGreat
open Go.RowKit Go.MapKept Go.ChangeMaps Go.Shelf Go.Sort
def rightB (i:ID) (e:CH):Bool:=decide (e.1=i/\fpOf e.2.bs=i)
def firstR (T:List CH) (i:ID):Option CH:=T.find? (rightB i)
def pickStep (ids:List ID) (acc:List CH) (e:CH):List CH:=if e.1∈ids/\fpOf e.2.bs=e.1/\e.1 ∉ acc.map (·.1) then acc++[e] else acc
def pickL (ids:List ID) (T:List CH):List CH:=T.foldl (pickStep ids) []
def AllR (ids:List ID) (T:List CH):Prop:=∀ i∈ids,(firstR T i).isSome=true
def selR (ids:List ID) (T:List CH):List CH:=ids.map (fun i=>(firstR T i).getD ch0)
theorem pick_snoc (ids:List ID) (T:List CH) (e:CH):pickL ids (T++[e])=pickStep ids (pickL ids T) e:=by simp [pickL]
theorem firstR_snoc (T:List CH) (e:CH) (i:ID):firstR (T++[e]) i=(firstR T i).or (if rightB i e then some e else none):=by
 unfold firstR;rw [List.find?_append];congr 1
 cases h:rightB i e<;>simp [h]
theorem firstR_id {T:List CH} {i:ID} {e:CH} (h:firstR T i=some e):e.1=i/\fpOf e.2.bs=i/\e∈T:=by
 have h1:=List.find?_some h;have h2:=List.mem_of_find?_eq_some h;have:e.1=i/\fpOf e.2.bs=i:=by simpa [rightB] using h1
 exact ⟨this.1,this.2,h2⟩
theorem pick_spec (ids:List ID) (T:List CH):((pickL ids T).map (·.1)).Nodup/\(∀ e∈pickL ids T,e.1∈ids/\firstR T e.1=some e)/\∀ i∈ids,∀ e,firstR T i=some e->e∈pickL ids T:=by
 refine snocInd (P:=fun T=>((pickL ids T).map (·.1)).Nodup/\(∀ e∈pickL ids T,e.1∈ids/\firstR T e.1=some e)/\∀ i∈ids,∀ e,firstR T i=some e->e∈pickL ids T) ⟨.nil,(fun e he=>by cases he),(fun i _ e he=>by cases he)⟩ (fun T e ih=>?_) T;obtain ⟨h1,h2,h3⟩:=ih;rw [pick_snoc,pickStep];by_cases hc:e.1∈ids/\fpOf e.2.bs=e.1/\e.1 ∉ (pickL ids T).map (·.1)
 · rw [if_pos hc];obtain ⟨c1,c2,c3⟩:=hc
   have hno:firstR T e.1=none:=by
    cases hf:firstR T e.1 with
    | none=>rfl
    | some e'=>
     have:=h3 _ c1 e' hf;exact absurd (List.mem_map.2 ⟨e',this,(firstR_id hf).1⟩) c3
   refine ⟨?_,fun x hx=>?_,fun i hi x hx=>?_⟩
   · rw [List.map_append,List.nodup_append];refine ⟨h1,by simp,fun a ha b hb hab=>?_⟩;simp only [List.map_cons,List.map_nil,List.mem_singleton] at hb;subst hb;subst hab;exact c3 ha
   · rcases List.mem_append.1 hx with h | h
     · obtain ⟨a1,a2⟩:=h2 x h;exact ⟨a1,by rw [firstR_snoc,a2];rfl⟩
     rw [List.mem_singleton.1 h];refine ⟨c1,?_⟩;rw [firstR_snoc,hno,if_pos (by simp [rightB,c2])];rfl
   rw [firstR_snoc] at hx;cases hf:firstR T i with
   | some y=>
    rw [hf] at hx;have hx:y=x:=by simpa using hx
    subst hx;exact List.mem_append_left _ (h3 i hi y hf)
   | none=>
    rw [hf] at hx;by_cases hr:rightB i e=true
    · rw [if_pos hr] at hx;simp only [Option.none_or,Option.some.injEq] at hx;subst hx;exact List.mem_append_right _ (.head _)
    rw [if_neg hr] at hx;cases hx
 rw [if_neg hc];refine ⟨h1,fun x hx=>?_,fun i hi x hx=>?_⟩
 · obtain ⟨a1,a2⟩:=h2 x hx;exact ⟨a1,by rw [firstR_snoc,a2];rfl⟩
 rw [firstR_snoc] at hx;cases hf:firstR T i with
 | some y=>
  rw [hf] at hx;have hx:y=x:=by simpa using hx
  subst hx;exact h3 i hi y hf
 | none=>
  rw [hf] at hx;by_cases hr:rightB i e=true
  · have hr':e.1=i/\fpOf e.2.bs=i:=by simpa [rightB] using hr
    exfalso
    refine hc ⟨by rw [hr'.1];exact hi,by rw [hr'.1];exact hr'.2,fun hm=>?_⟩;obtain ⟨y,hy1,hy2⟩:=List.mem_map.1 hm;have:=(h2 y hy1).2;rw [hy2,hr'.1,hf] at this;cases this
  rw [if_neg hr] at hx;cases hx
theorem nodup_len {α:Type} [DecidableEq α]:∀ {a b:List α},a.Nodup->(∀ x∈a,x∈b)->a.length<=b.length
 | [],_,_,_=>Nat.zero_le _
 | x::a,b,hn,hs=>by
  obtain ⟨h1,h2⟩:=List.nodup_cons.1 hn;have hx:=hs x (.head _);have:=nodup_len (a:=a) (b:=b.erase x) h2 (fun y hy=>(List.mem_erase_of_ne (fun (e:y=x)=>h1 (e ▸ hy))).2 (hs y (List.mem_cons_of_mem _ hy)));rw [List.length_erase_of_mem hx] at this;have hp:0<b.length:=List.length_pos_of_mem hx;rw [List.length_cons];omega
theorem nodup_all {α:Type} [DecidableEq α] {a b:List α} (hn:a.Nodup) (hs:∀ x∈a,x∈b) (hl:b.length<=a.length):∀ x∈b,x∈a:=by
 intro x hx;refine Classical.byContradiction (fun h=>?_)
 have:=nodup_len (a:=x::a) (b:=b) (List.nodup_cons.2 ⟨h,hn⟩) (fun y hy=>by
  rcases List.mem_cons.1 hy with e | hy
  · rw [e];exact hx
  exact hs y hy)
 rw [List.length_cons] at this;omega
theorem pick_len (ids:List ID) (T:List CH):(pickL ids T).length<=ids.length:=by
 obtain ⟨h1,h2,_⟩:=pick_spec ids T
 have:=nodup_len h1 (b:=ids) (fun x hx=>by
  obtain ⟨e,he,rfl⟩:=List.mem_map.1 hx;exact (h2 e he).1)
 simpa using this
theorem asc_nodup {ids:List ID} (h:AscI ids):ids.Nodup:=h.imp (fun {a b} hab e=>by rw [e,ltID_irr] at hab;cases hab)
theorem all_iff (ids:List ID) (T:List CH) (ha:AscI ids):AllR ids T↔(pickL ids T).length=ids.length:=by
 obtain ⟨h1,h2,h3⟩:=pick_spec ids T;constructor
 · intro h
   have:=nodup_len (asc_nodup ha) (b:=(pickL ids T).map (·.1)) (fun i hi=>by
    obtain ⟨e,he⟩:=Option.isSome_iff_exists.1 (h i hi);exact List.mem_map.2 ⟨e,h3 i hi e he,(firstR_id he).1⟩)
   have h4:=pick_len ids T;simp at this;omega
 intro h i hi
 have:=nodup_all h1 (b:=ids) (fun x hx=>by
  obtain ⟨e,he,rfl⟩:=List.mem_map.1 hx;exact (h2 e he).1) (by simp;omega) i hi
 obtain ⟨e,he,rfl⟩:=List.mem_map.1 this;rw [(h2 e he).2];rfl
theorem pick_sorted {ids:List ID} {T S:List CH} (ha:AscI ids) (hp:S.Perm (pickL ids T)) (hs:S.Pairwise (fun a b=>ltID b.1 a.1=false)) (hall:AllR ids T):S=selR ids T:=by
 obtain ⟨h1,h2,h3⟩:=pick_spec ids T;have hn:(S.map (·.1)).Nodup:=(hp.map (·.1)).nodup_iff.2 h1
 have hst:(S.map (·.1)).Pairwise (fun a b=>ltID a b=true):=by
  rw [List.pairwise_map];have hn':=List.pairwise_map.1 hn;refine (hs.and hn').imp (fun {a b} ⟨x,y⟩=>?_);cases h:ltID a.1 b.1 with
  | true=>rfl
  | false=>exact absurd (ltID_tot h x) y
 have hmem:∀ i,i∈S.map (·.1)↔i∈ids:=fun i=>by
  constructor
  · intro hi;obtain ⟨e,he,rfl⟩:=List.mem_map.1 hi;exact (h2 e (hp.mem_iff.1 he)).1
  intro hi;obtain ⟨e,he⟩:=Option.isSome_iff_exists.1 (hall i hi);exact List.mem_map.2 ⟨e,hp.mem_iff.2 (h3 i hi e he),(firstR_id he).1⟩
 have hk:S.map (·.1)=ids:=sorted_uniq hst ha hmem;unfold selR;rw [<- hk,List.map_map];refine (List.map_id _).symm.trans (List.map_congr_left (fun e he=>?_));have:=(h2 e (hp.mem_iff.1 he)).2;simp [this]
end Go.Proofs.YtmiknfneeipkeaaGreat
namespace Go.Proofs.YtmiknfneeipkeaaGreat
open Go.RowKit Go.MapKept Go.ChangeMaps Go.Shelf Go.Sort
attribute [local go_sem] wext_cell
def BSok (w:World) (e:BS):Prop:=RS w e.d.A e.bs/\e.d.len=e.bs.length/\e.d.len<=e.d.cap
theorem BSok.keep {w w':World} {e:BS} (h:BSok w e) (hk:∀ i,(0<e.bs.length/\∃ o,e.d.A=some ⟨i,o,none⟩)->w'.heap[i]? =w.heap[i]?):BSok w' e:=by
 obtain ⟨⟨h1,h2⟩,h3⟩:=h;refine ⟨⟨h1,fun ad e1 hp=>?_⟩,h3⟩;obtain ⟨g,o,rfl,hc⟩:=h2 ad e1 hp;refine ⟨g,o,rfl,fun j hj=>?_⟩;rw [<- hc j hj];have:=hk g ⟨by omega,o,e1⟩;simp [World.cell?, this]
def cxOb (A:Option Addr) (T:List CH):Ob where
 own:=fun _=>False
 rd:=fun i=>(0<T.length/\∃ o,A=some ⟨i,o,none⟩)∨∃ e∈T,0<e.2.bs.length/\∃ o,e.2.d.A=some ⟨i,o,none⟩
 holds:=fun w=>Rd encCH 3 ch0 w w.heap.size A T/\∀ e∈T,BSok w e.2
 stable:=fun w w' h hs hk=>by
  obtain ⟨h1,h2⟩:=h;refine ⟨fun hp=>?_,fun e he=>(h2 e he).keep (fun i hi=>hk i (.inr (.inr ⟨e,he,hi⟩)))⟩;obtain ⟨b,o,rfl,hb,_,hc⟩:=h1 hp;have hB:=hk b (.inr (.inl ⟨hp,o,rfl⟩));refine ⟨b,o,rfl,Nat.lt_of_lt_of_le hb hs.2.2.2,by have:=hs.2.2.2;omega,fun j hj i v hv=>?_⟩;rw [<- hc j hj i v hv];simp [World.cell?, hB]
theorem cx_at {w:World} {A:Option Addr} {T:List CH} (h:(cxOb A T).holds w) {j:Nat} (hj:j<T.length) {i:ID} {e:BS} (he:T.getD j ch0=(i,e)):∃ g o,A=some ⟨g,o,none⟩/\g<w.heap.size/\w.cell? ⟨g,o+j*3,none⟩=some (.int .u64 i.1)/\w.cell? ⟨g,o+j*3+1,none⟩=some (.int .i64 i.2)/\w.cell? ⟨g,o+j*3+2,none⟩=some (.slice e.d.A e.bs.length e.d.cap)/\BSok w e:=by
 obtain ⟨g,o,hA,hg,_,hc⟩:=h.1 (by omega);have hm:(i,e)∈T:=by rw [<- he];exact getD_mem _ _ _ hj
 have hb:=h.2 _ hm;refine ⟨g,o,hA,hg,?_,?_,?_,hb⟩
 · have:=hc j hj 0 _ (by rw [he];rfl);exact this
 · exact hc j hj 1 _ (by rw [he];rfl)
 rw [<- hb.2.1];exact hc j hj 2 _ (by rw [he];rfl)
instance:Inhabited CH:=⟨ch0⟩
def cmpCH (x y:CH):Int:=cmpID x.1 y.1
theorem swoCH:SWO (ltOf cmpCH) where
 irrefl x:=swoID.irrefl x.1
 trans x y z h1 h2:=swoID.trans x.1 y.1 z.1 h1 h2
 ntrans x y z h1 h2:=swoID.ntrans x.1 y.1 z.1 h1 h2
set_option maxHeartbeats 1000000 in
theorem closure88 (x y:CH) (W:World):Calls Tryz.prog 88 #[.agg (encCH x).toArray,.agg (encCH y).toArray] W fun e w'=>e= .returned (.int .i64 (cmpCH x y))/\∃ q os',w'=grow (W.drewN q) os':=by
 obtain ⟨⟨x1,x2⟩,⟨⟨x3,x4,x5⟩,x6⟩⟩:=x;obtain ⟨⟨y1,y2⟩,⟨⟨y3,y4,y5⟩,y6⟩⟩:=y;have H:=hid (fun W'=>acmp_grow x1 x2 y1 y2 W');unfold cmpCH;simp only [encCH,vBS];generalize cmpID (x1,x2) (y1,y2)=r at H |-; go_enter Tryz.func88,Tryz.ntmps88;go_wp2_with fail
 refine (H.out _).mono ?_;rintro e w' ⟨rfl,q,os,rfl⟩;go_wp2_with fail
 go_ret;exact ⟨rfl,q,_,grow_grow2 W _ _ q os⟩
theorem sortCH_own (base g n cap:Nat) (xs:List CH) (w:World) (h:w.ownsRow base 42 3 (.slice (some ⟨g,0,none⟩) n cap) n (xs.flatMap encCH)) (hn:xs.length<=4294967296):
 Calls Tryz.prog 87 #[.slice (some ⟨g,0,none⟩) n cap,.func (.func 88) #[] #[]] w (SortOwn encCH 3 cmpCH base g n cap 42 xs w):=by
 have hg:=h.lt g rfl;have eg:∀ args w,(callFunc 88 args).run Tryz.prog w= .ok (.enter 88 args) w:=enters_of Tryz.func88 (by kernel_rfl) rfl
 exact sort_own encCH_len h (by omega) (AnyQ.slices_SortFunc Tryz.lay87 3 Tryz.isAgg42 Tryz.sizeOf42 encCH (fun _=>rfl) encCH_one cmpCH swoCH 88 #[] g 0 cap xs.toArray w eg
  (fun _ _ _ _ x y=>closure88 x y _) (holdsK_of_own encCH_len (by omega) h) hg.2 (by simp;omega))
theorem sortCH_none (p:Option Addr) (cap:Nat) (w:World):Calls Tryz.prog 87 #[.slice p 0 cap,.func (.func 88) #[] #[]] w fun e w'=>e= .returned (.tuple #[])/\w'=w:=
 AnyF.slices_SortFunc_none { Tryz.lay87 with } p cap _ w
section
variable {b:Nat} {w0 w w':World} {l:List Ob}
theorem SW.sortCH {v:Value} {xs:List CH} (h:SW b w0 (rowOb 42 3 v xs.length (xs.flatMap encCH)::l) w) (hn:xs.length<=4294967296):
 Calls Tryz.prog 87 #[v,.func (.func 88) #[] #[]] w (fun e w'=>e= .returned (.tuple #[])/\∃ ys:List CH,ys.Perm xs/\ys.Pairwise (fun a b=>ltOf cmpCH b a=false)/\SW b w0 (rowOb 42 3 v ys.length (ys.flatMap encCH)::l) w'):=by
 have hh:w.ownsRow 0 42 3 v xs.length (xs.flatMap encCH):=h.get 0 rfl;by_cases h0:v= .slice none 0 0
 · subst h0;refine (sortCH_none none 0 w).mono ?_;rintro e w' ⟨rfl,rfl⟩
   have hx:xs=[]:=by
    rcases hh.2 with ⟨_,h2⟩ | ⟨g,cap,cur,hv,_⟩
    · exact List.eq_nil_of_length_eq_zero h2
    cases hv
   subst hx;exact ⟨rfl,[],List.Perm.refl _,List.Pairwise.nil,h⟩
 obtain ⟨g,cap,rfl⟩:∃ g cap,v= .slice (some ⟨g,0,none⟩) xs.length cap:=by
  rcases hh.2 with ⟨hv,_⟩ | ⟨g,cap,cur,hv,_⟩
  · exact absurd hv h0
  exact ⟨g,cap,hv⟩
 refine (sortCH_own 0 g _ cap xs w hh hn).mono ?_;rintro e w' ⟨rfl,ys,hp,hs,hown,hg⟩;refine ⟨rfl,ys,hp,hs,?_⟩;have:=h.row (w':=w') 0 rfl hown hg (.inl rfl);rw [hp.length_eq];exact this
end
end Go.Proofs.YtmiknfneeipkeaaGreat
