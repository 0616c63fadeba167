/- Q -/
import Derived.Test.YteabgcollokgjaaGreatDoorY14
set_option linter.unusedSimpArgs false
set_option linter.unusedVariables false
set_option maxRecDepth 100000
set_option maxHeartbeats 32000000
open Go.Lib (hid)
open List renaming getElem?_eq_getElem → zA
namespace Go.Proofs.YteabgcollokgjaaGreatDoor
section
open Go.RowKit Go.MapKept Go.ChangeMaps
def bufOb (d:BD) (bs:List UInt8):Ob where
 own:=fun i=>blk d=some i
 rd:=fun _=>False
 holds:=fun w=>RB w d bs
 stable:=fun w w' h hs hk=>by
  have hc:Ch w w' (fun i=>¬ blk d=some i) []:=⟨hs.1,hs.2.1,hs.2.2.1,hs.2.2.2,fun i _ hn _=>hk i (.inl (Classical.not_not.1 hn)),by simp⟩;exact h.ch hc (fun g hg hn=>hn hg) (by simp)
def rsOb (A:Option Addr) (bs:List UInt8):Ob where
 own:=fun _=>False
 rd:=fun i=>0<bs.length/\∃ o,A=some ⟨i,o,none⟩
 holds:=fun w=>RS w A bs
 stable:=fun w w' h hs hk=>by
  refine ⟨h.1,fun ad e=>?_⟩;obtain ⟨g,o,rfl,hc⟩:=h.2 ad e;refine ⟨g,o,rfl,fun j hj=>?_⟩;have h2:=hk g (.inr ⟨by omega,o,e⟩);rw [<- hc j hj];simp [World.cell?, h2]
theorem AppB.fr {w w':World} {d d':BD} {bs bs':List UInt8} (h:AppB w d bs' d' w') (hr:RB w d bs):Fr w w' (bufOb d bs).own (bufOb d' bs').own:=by
 obtain ⟨_,⟨e1,_,_,hc⟩ | ⟨H,e1,e2,hb⟩⟩:=h
 · refine ⟨hc.os,hc.tape,hc.output,hc.size,fun i hi hn=>hc.block i hi (fun h=>h) (fun p hp he=>hn ?_),fun i hi=> .inl ?_⟩
   · obtain ⟨A,n,c⟩:=d;cases A with
     | none=>simp [room] at hp
     | some ad=>
      obtain ⟨g,cur,rfl,_⟩:=hr.2.2.2 ad rfl;simp [room] at hp;obtain ⟨_,rfl⟩:=hp;show blk _=some i;rw [<- he];rfl
   show blk d=some i;rw [<- e1];exact hi
 exact Fr.new hb (fun i hi=> .inr (by
  have h1:blk d'=some i:=hi;rw [e1] at h1;injection h1 with h1;omega))
theorem Sep.app {b:Nat} {w w':World} {l:List Ob} (h:Sep b w l) (k:Nat) {d d':BD} {bs bs':List UInt8} (hk:l[k]? =some (bufOb d bs)) (ha:AppB w d bs' d' w'):Sep b w' (l.set k (bufOb d' bs'))/\Below b w w':=by
 have hr:RB w d bs:=h.get hk;refine h.stepAt k hk (ha.fr hr) (fun i hi=>hi.elim) ha.1 (fun i hi=>?_);rcases hi with hi | hi
 · exact ha.1.lt hi
 exact hi.elim
theorem Sep.note {b:Nat} {w w':World} {l:List Ob} (h:Sep b w l) (k:Nat) {cm:Nat} {C:Chs} (hk:l[k]? =some (chOb cm C)) {i:ID} {o:Nat} (hm:MapIs okID vID vPl w' cm (setL C i (.at o))) (hg:w.grownBy w' (some cm)):Sep b w' (l.set k (chOb cm (setL C i (.at o))))/\Below b w w':=by
 have hh:=h.get hk;have hmem:∀ c∈setL C i (.at o),c=(i,.at o)∨c∈C:=(setL_pairwise (R:=fun _ _=>True) hh.1.nodup (List.pairwise_of_forall (by simp)) i (Pl.at o) (by simp) (by simp)).2
 have hpend:∀ id d' bs',(id,Pl.pend d' bs')∈setL C i (.at o)->(id,Pl.pend d' bs')∈C:=by
  intro id d' bs' hc;rcases hmem _ hc with e | e
  · injection e with e1 e2;cases e2
  exact e
 refine h.stepAt k hk (Fr.grown hg rfl (fun _ hi=> .inl hi)) (fun j hj=>?_) ⟨hm,fun id d' bs' hc=>?_⟩ (fun j hj=>?_)
 · obtain ⟨id,d',bs',hc,hbk⟩:=hj;exact .inr (.inl ⟨id,d',bs',hpend _ _ _ hc,hbk⟩)
 · have:=hh.2 id d' bs' (hpend _ _ _ hc);exact ⟨this.1.gone hh.1 hg,this.2⟩
 rcases hj with hj | ⟨id,d',bs',hc,hbk⟩
 · have e:j=cm:=hj;rw [e];exact hm.lt
 exact Nat.lt_of_lt_of_le ((hh.2 id d' bs' (hpend _ _ _ hc)).1.lt hbk) hg.size
end
section
open Go.RowKit
theorem rplus_any (a b:Nat) (w:World) (ha:a<=2305843009213693951) (hb:b<=2305843009213693951):Calls Tryz.prog 186 #[.int .u64 (a:Int),.int .u64 (b:Int)] w fun e w'=>e= .returned (.int .u64 (((a+b) % pP:Nat):Int))/\w=w':=by
 by_cases h:a+b<2305843009213693951
 · have e1:Hid ((a+b) % pP=a+b):=Nat.mod_eq_of_lt h;have h':¬ (2305843009213693951<=(a:Int)+b):=by omega
   go_enter Tryz.func186,Tryz.ntmps186;go_wp2
   go_ret;exact rint_u (q:=a+b) e1.out rfl
 have h':2305843009213693951<=(a:Int)+b:=by omega
 by_cases h2:a+b-2305843009213693951<2305843009213693951
 · have e1:Hid ((a+b) % pP=a+b-2305843009213693951):=by
    rw [Hid,Nat.mod_eq_sub_mod (by unfold pP;omega)];exact Nat.mod_eq_of_lt (by unfold pP;omega)
   have h2':¬ (2305843009213693951<=(a:Int)+b-2305843009213693951):=by omega
   obtain ⟨r,hr⟩:∃ r,r=(a+b) % pP:=⟨_,rfl⟩;rw [<- hr];have E2:Hid (((r:Nat):Int)=(a:Int)+b-2305843009213693951):=by rw [Hid,hr,e1.out];omega
   clear hr e1;go_enter Tryz.func186,Tryz.ntmps186;go_wp2
   go_ret;rw [E2.out];exact ⟨rfl,rfl⟩
 obtain rfl:a=2305843009213693951:=by omega
 obtain rfl:b=2305843009213693951:=by omega
 obtain ⟨r,hr⟩:∃ r,r=(2305843009213693951+2305843009213693951) % pP:=⟨_,rfl⟩
 have hr0:r=0:=by
  rw [hr];unfold pP;omega
 rw [<- hr,hr0];clear hr hr0;go_enter Tryz.func186,Tryz.ntmps186;go_wp2
 go_ret;exact ⟨rfl,rfl⟩
theorem rmul_lo (m:Nat):bits .and .u64 ((m:Int) % 18446744073709551616) 2305843009213693951=((m % 18446744073709551616 % 2305843009213693952:Nat):Int):=by
 have e:(m:Int) % 18446744073709551616=((m % 18446744073709551616:Nat):Int):=by omega
 rw [e,mask61 _ (Nat.mod_lt _ (by omega))]
theorem rmul_any (a b:Nat) (w:World) (ha:a<2305843009213693951) (hb:b<2305843009213693951):Calls Tryz.prog 187 #[.int .u64 (a:Int),.int .u64 (b:Int)] w fun e w'=>e= .returned (.int .u64 (((a*b) % pP:Nat):Int))/\w=w':=by
 have HP:=hid (prod_lt ha hb);go_enter Tryz.func187,Tryz.ntmps187;go_wp2_with (first | (go_at_call 185;refine (Tryz.bits_Mul64 a b (by omega) (by omega) _).mono ?_;rintro e w' ⟨rfl,hw⟩;rw [hw]) | (go_at_call 186;refine halt_q ?_))
 have e1:=rmul_lo (a*b);have e2:=mul_hi (a*b) HP.out;rw [Int.natCast_mul] at e1 e2;rw [e2,e1];have hh:=mul_high _ HP.out;refine (rplus_any (a*b % 18446744073709551616 % 2305843009213693952) (a*b / 18446744073709551616*8+a*b % 18446744073709551616 / 2305843009213693952) w (by omega) (by omega)).mono ?_;rintro e w' ⟨rfl,rfl⟩;rw [mul_words _ HP.out];clear e1 e2 hh;go_wp2_with fail
 go_ret;exact ⟨rfl,rfl⟩
theorem rSum_any (A:Option Addr) (c:Nat) (bs:List UInt8) (w:World) (h:RS w A bs) (hn:bs.length<=1099511627776):Calls Tryz.prog 148 #[.slice A bs.length c] w fun e w'=>e= .returned (.int .u64 ((fpSum bs:Nat):Int))/\Below w.heap.size w w':=by
 have H:=hid h;clear h;go_enter Tryz.func148,Tryz.ntmps148;go_wp2_with fail
 go_loopw [3,4] (fun v i wr=>∃ (k:Nat),k<=bs.length/\i= .int .i64 k/\v= .int .u64 ((fpSum (bs.take k):Nat):Int)/\Below w.heap.size w wr) (fun _ i _=>bs.length-(intOf i).toNat)
 case atStart=>exact ⟨0,Nat.zero_le _,rfl,by rw [List.take_zero,fpSum_nil];rfl,Below.refl _ _⟩
 obtain ⟨k,hk,rfl,rfl,hbl⟩:=hrel;have HB:=hid hbl;have HR:=hid (H.out.on hbl);clear hbl;by_cases hlt:k<bs.length
 · cases A with
   | none=>exact absurd (H.out.1 rfl) (by omega)
   | some ad=>
    obtain ⟨g,o,rfl,hc⟩:=HR.out.2 ad rfl;have hcl:wr.cell? ⟨g,o+k,none⟩=some (.int .u8 (((bs.getD k 0).toNat:Nat):Int)):=hc k hlt;have HT:Hid ((fpSum (bs.take k)*747382712868975713 % pP+((bs.getD k 0).toNat+1)) % pP=fpSum (bs.take (k+1))):=by rw [Hid,take_snocU bs k hlt, <- fp_byte]
    have hf:=fpSum_lt (bs.take k);have HF:Hid (fpSum (bs.take k)<pP):=hf;clear hc hf;generalize hx:bs.getD k 0=x at *; have hx2:=x.toNat_lt;have HX:=hid hx;clear hx;generalize fpSum (bs.take k)=sm at *; generalize hs':fpSum (bs.take (k+1))=sm' at *; have HS:=hid hs';clear hs';have hm:=fun w=>rmul_any sm 747382712868975713 w HF.out (by omega);have hmt:sm*747382712868975713 % pP<pP:=Nat.mod_lt _ pP_pos;generalize sm*747382712868975713 % pP=t at *; have ha:=fun w=>rplus_any t (x.toNat+1) w (by unfold pP at hmt;omega) (by omega);rw [HT.out] at ha;simp only [Int.natCast_add,Int.natCast_one] at ha;have HM:Hid (∀ w,Calls Tryz.prog 187 #[.int .u64 ((sm:Nat):Int),.int .u64 747382712868975713] w fun e w'=>e= .returned (.int .u64 ((t:Nat):Int))/\w'=w):=fun w=>(hm w).mono fun _ _ h=>⟨h.1,h.2.symm⟩;have HA:Hid (∀ w,Calls Tryz.prog 186 #[.int .u64 ((t:Nat):Int),.int .u64 (((x.toNat:Nat):Int)+1)] w fun e w'=>e= .returned (.int .u64 ((sm':Nat):Int))/\w'=w):=fun w=>(ha w).mono fun _ _ h=>⟨h.1,h.2.symm⟩;clear hm ha hmt;go_wp2_with fail
    go_quiet ((first | (go_at_call 187;exact Calls.quiet_of_same (HM.out _)) | (go_at_call 186;exact Calls.quiet_of_same (HA.out _))))
    go_wp2_with fail
    go_roundw
    case rel=>exact ⟨k+1,by omega,by go_num,by rw [HS.out],bdrewN HB.out _⟩
    simp [intOf];omega
 obtain rfl:k=bs.length:=by omega
 rw [List.take_length];go_wp2_with fail
 go_ret;exact ⟨rfl,HB.out⟩
theorem rOf_any (A:Option Addr) (c:Nat) (bs:List UInt8) (w:World) (h:RS w A bs) (hn:bs.length<=1099511627776):Calls Tryz.prog 94 #[.slice A bs.length c] w fun e w'=>e= .returned (.agg #[.int .u64 (fpOf bs).1,.int .i64 (fpOf bs).2])/\Below w.heap.size w w':=by
 have H:=hid (fun W (hW:RS W A bs)=>rSum_any A c bs W hW hn);have H1:=hid (h.on ((Below.refl _ w).alloc (Nat.le_refl _) (.cells #[.int .u64 0,.int .i64 0] 31)));have B1:Hid (IsB (w.alloc (.cells #[.int .u64 0,.int .i64 0] 31)) w.heap.size 31 #[.int .u64 0,.int .i64 0]):=IsB.new _ _ _;clear h;simp only [fpOf];generalize fpSum bs=sm at *; go_enter Tryz.func94,Tryz.ntmps94;go_wp2_with (go_at_call 148;refine (H.out _ H1.out).mono ?_;rintro e w' ⟨rfl,hb⟩;have HB:=hid hb;have hc0:=(B1.out.on hb).cell 0;have hc1:=(B1.out.on hb).cell 1;have hf0:=(B1.out.on hb).frozen 0;have hf1:=(B1.out.on hb).frozen 1;clear hb)
 refine bodyPost_ret (v:=.agg #[.int .u64 ((sm:Nat):Int),.int .i64 ((bs.length:Nat):Int)]) ?_ rfl ⟨rfl,?_⟩
 · simp [results,Tryz.results94,go_sem,hc0,hc1]
 exact ((((Below.refl _ w).alloc (Nat.le_refl _) _).trans (HB.out.mono (by simp))).setCell (p:=⟨w.heap.size,0,none⟩) (Nat.le_refl _) _).setCell (p:=⟨w.heap.size,1,none⟩) (Nat.le_refl _) _
end
section
open Go.RowKit Go.MapKept Go.ChangeMaps Go.Shelf Go.Sort
attribute [local go_sem] wext_cell
def RowV (w:World) (t:TypeId) (sz:Nat) (A:Option Addr) (n:Nat) (xs:List Value):Prop:=
 xs.length=n*sz/\(n=0∨∃ g cur,A=some ⟨g,0,none⟩/\IsB w g t cur/\cur.toList.take (n*sz)=xs)
section
variable {w w':World} {t:TypeId} {sz:Nat} {A:Option Addr} {n:Nat} {xs:List Value}
theorem RowV.same (h:RowV w t sz A n xs) (hk:∀ i,0<n->A=some ⟨i,0,none⟩->w'.heap[i]? =w.heap[i]?):RowV w' t sz A n xs:=by
 refine ⟨h.1,?_⟩;rcases h.2 with h2 | ⟨g,cur,e,hi,hx⟩
 · exact .inl h2
 by_cases hn:n=0
 · exact .inl hn
 exact .inr ⟨g,cur,e,(hk g (by omega) e).trans hi,hx⟩
theorem RowV.lt (h:RowV w t sz A n xs) {i:Nat} (hn:0<n) (e:A=some ⟨i,0,none⟩):i<w.heap.size:=by
 rcases h.2 with h2 | ⟨g,cur,e2,hi,_⟩
 · omega
 rw [e] at e2;injection e2 with e2;injection e2 with e2;rw [e2];exact hi.lt
theorem RowV.at (h:RowV w t sz A n xs) (hn:0<n):∃ g,A=some ⟨g,0,none⟩/\g<w.heap.size/\∀ j,j<n*sz->w.cell? ⟨g,j,none⟩=xs[j]? :=by
 rcases h.2 with h2 | ⟨g,cur,e2,hi,hx⟩
 · omega
 refine ⟨g,e2,hi.lt,fun j hj=>?_⟩;rw [hi.cell, <- hx,List.getElem?_take_of_lt hj,Array.getElem?_toList]
theorem RowV.of_own {c:Nat} (h:w.ownsRow 0 t sz (.slice A n c) n xs):RowV w t sz A n xs/\n<=c:=by
 refine ⟨⟨h.1,?_⟩,?_⟩
 · rcases h.2 with ⟨hv,h2⟩ | ⟨g,cap,cur,hv,_,hh,hc1,hcs,hcs2,htk⟩
   · exact .inl h2
   injection hv with e1 e2 e3;exact .inr ⟨g,cur,e1,hh,htk⟩
 rcases h.2 with ⟨hv,h2⟩ | ⟨g,cap,cur,hv,_,hh,hc1,hcs,hcs2,htk⟩
 · omega
 injection hv with e1 e2 e3;omega
theorem RowV.nil:RowV w t sz A 0 []:=⟨by simp,.inl rfl⟩
end
structure RE where
 id:ID
 d:BD
 bs:List UInt8
 pn:Bool
def re0:RE:=⟨(0,0),⟨none,0,0⟩,[],false⟩
def encK (e:RE):List Value:=[.int .u64 e.id.1,.int .i64 e.id.2,.slice e.d.A e.d.len e.d.cap]
def encP (e:RE):List Value:=[.bool e.pn]
theorem encK_len (e:RE):(encK e).length=3:=rfl
theorem encP_len (e:RE):(encP e).length=1:=rfl
structure R3 where
 A:Option Addr
 c:Nat
 B:Option Addr
 k:Nat
 E:List RE
structure R3Ok (w:World) (r:R3):Prop where
 a:RowV w 65 3 r.A r.E.length (r.E.flatMap encK)
 b:RowV w 4 1 r.B r.E.length (r.E.flatMap encP)
 c:r.E.length<=r.c
 k:r.E.length<=r.k
 n:r.E.length<=100000
 bytes:∀ e∈r.E,RB w e.d e.bs
def r3Ob (r:R3):Ob where
 own:=fun _=>False
 rd:=fun i=>(0<r.E.length/\(r.A=some ⟨i,0,none⟩∨r.B=some ⟨i,0,none⟩))∨∃ e∈r.E,blk e.d=some i
 holds:=fun w=>R3Ok w r
 stable:=fun w w' h hs hk=>by
  refine ⟨h.a.same (fun i hn e=>hk i (.inr (.inl ⟨hn,.inl e⟩))),h.b.same (fun i hn e=>hk i (.inr (.inl ⟨hn,.inr e⟩))),h.c,h.k,h.n,fun e he=>?_⟩;have hc:Ch w w' (fun i=>¬ blk e.d=some i) []:=⟨hs.1,hs.2.1,hs.2.2.1,hs.2.2.2,fun i _ hn _=>hk i (.inr (.inr ⟨e,he,Classical.not_not.1 hn⟩)),by simp⟩;exact (h.bytes e he).ch hc (fun g hg hn=>hn hg) (by simp)
theorem r3Ob_lt {w:World} {r:R3} (h:R3Ok w r) {i:Nat} (hi:(r3Ob r).rd i):i<w.heap.size:=by
 rcases hi with ⟨hn,e | e⟩ | ⟨e,he,ea⟩
 · exact h.a.lt hn e
 · exact h.b.lt hn e
 exact (h.bytes e he).lt ea
theorem SW.start {w:World} {o:Ob} (h:o.holds w) (ho:∀ i,¬ o.own i) (hr:∀ i,o.rd i->i<w.heap.size):SW w.heap.size w [o] w:=
 (SW.refl (Sep.nil w (Nat.le_refl _))).also h ho hr (fun _ _ y hy=>by cases hy)
theorem SW.startR {w:World} {r:R3} (h:R3Ok w r):SW w.heap.size w [r3Ob r] w:=SW.start (o:=r3Ob r) h (fun _ h=>h) (fun _ h'=>r3Ob_lt h h')
theorem SW.fuse {b:Nat} {w0 w:World} {pre t:List Ob} {o':Ob} (h:SW b w0 (pre++t) w) (hh:o'.holds w) (ho:∀ i,¬ o'.own i) (hr:∀ i,o'.rd i->∃ o∈pre,o.own i∨o.rd i):SW b w0 (o'::t) w:=by
 obtain ⟨_,hpt,hap⟩:=List.pairwise_append.1 h.1.apart;refine ⟨⟨h.1.base,fun y hy=>?_,fun y hy i hi=>?_,fun y hy i hi=>?_,List.pairwise_cons.2 ⟨fun y hy=>⟨fun i hi=>absurd hi (ho i),fun i hi hr'=>?_⟩,hpt⟩⟩,h.2⟩
 · rcases List.mem_cons.1 hy with rfl | hy
   · exact hh
   exact h.1.holds y (List.mem_append_right _ hy)
 · rcases List.mem_cons.1 hy with rfl | hy
   · exact absurd hi (ho i)
   exact h.1.own y (List.mem_append_right _ hy) i hi
 · rcases List.mem_cons.1 hy with rfl | hy
   · obtain ⟨o,hm,h1 | h1⟩:=hr i hi
     · exact (h.1.own o (List.mem_append_left _ hm) i h1).2
     exact h.1.rd o (List.mem_append_left _ hm) i h1
   exact h.1.rd y (List.mem_append_right _ hy) i hi
 obtain ⟨o,hm,h1 | h1⟩:=hr i hr'
 · exact ((hap o hm y hy).1 i h1).1 hi
 exact (hap o hm y hy).2 i hi h1
theorem R3Ok.chunk {w:World} {r:R3} (h:R3Ok w r) {j:Nat} (hj:j<r.E.length) {e:RE} (he:r.E.getD j re0=e):∃ g,r.A=some ⟨g,0,none⟩/\g<w.heap.size/\w.cell? ⟨g,j*3,none⟩=some (.int .u64 e.id.1)/\w.cell? ⟨g,j*3+1,none⟩=some (.int .i64 e.id.2)/\w.cell? ⟨g,j*3+2,none⟩=some (.slice e.d.A e.d.len e.d.cap):=by
 obtain ⟨g,e1,hlt,hc⟩:=h.a.at (by omega)
 have hf:∀ i,i<3->w.cell? ⟨g,j*3+i,none⟩=(encK e)[i]? :=fun i hi=>by
  rw [hc _ (by omega),flat_at encK_len re0 r.E j i hj hi,he]
 exact ⟨g,e1,hlt,hf 0 (by omega),hf 1 (by omega),hf 2 (by omega)⟩
theorem R3Ok.on {w w':World} {r:R3} (h:R3Ok w r) (hb:Below w.heap.size w w'):R3Ok w' r:=(r3Ob r).stable w w' h ⟨hb.os,hb.tape,hb.output,hb.size⟩ (fun i hi=>hb.block i (by
 rcases hi with hi | hi
 · exact hi.elim
 exact r3Ob_lt h hi))
def atI (E:List RE) (i:ID):Nat:=(E.takeWhile fun e=>ltID e.id i).length
def hasAt (E:List RE) (i:ID):Bool:=match E[atI E i]? with | some e=>decide (e.id=i) | none=>false
theorem atI_le (E:List RE) (i:ID):atI E i<=E.length:=(List.takeWhile_sublist _).length_le
theorem atI_eq {E:List RE} {i:ID} {k:Nat} (hk:k<=E.length) (hb:∀ j,j<k->ltID (E.getD j re0).id i=true) (he:k=E.length∨ltID (E.getD k re0).id i=false):atI E i=k:=by
 induction E generalizing k with
 | nil=>
  have:k=0:=by simpa using hk
  rw [this];rfl
 | cons e E ih=>
  cases k with
  | zero=>
   rcases he with he | he
   · simp at he
   have he:ltID e.id i=false:=he;unfold atI;rw [List.takeWhile_cons,he];rfl
  | succ k=>
   have h0:ltID e.id i=true:=hb 0 (by omega);have:=ih (k:=k) (by simpa using hk) (fun j hj=>by simpa using hb (j+1) (by omega)) (by simpa using he);unfold atI at *; rw [List.takeWhile_cons,h0];simp [this]
theorem At_any {w:World} {r:R3} (h:R3Ok w r) (i:ID):Calls Tryz.prog 95 #[.agg #[.slice r.A r.E.length r.c,.slice r.B r.E.length r.k],.agg #[.int .u64 i.1,.int .i64 i.2]] w (Gives (.tuple #[.int .i64 ((atI r.E i:Nat):Int),.bool (hasAt r.E i)]) w):=by
 have S0:=hid (((SW.startR h).newCell 54 #[.slice r.A r.E.length r.c,.slice r.B r.E.length r.k]).newCellAt 31 #[.int .u64 i.1,.int .i64 i.2] (H:=w.heap.size+1) (by simp));have HLN:=h.n;have hle:=atI_le r.E i;obtain ⟨K,HK⟩:∃ K,Hid (atI r.E i=K):=⟨_,rfl⟩;obtain ⟨V,HV⟩:∃ V,Hid (hasAt r.E i=V):=⟨_,rfl⟩;rw [HK.out] at hle |-; rw [HV.out];clear h;go_enter Tryz.func95,Tryz.ntmps95;go_upto_block 0 with fail
 go_cut [6] from 24 (fun s6 w'=>s6= .int .i64 (K:Int)/\SW w.heap.size w [cellOb (w.heap.size+1) 31 #[.int .u64 i.1,.int .i64 i.2],cellOb w.heap.size 54 #[.slice r.A r.E.length r.c,.slice r.B r.E.length r.k],r3Ob r] w')
 case first=>
  go_wp2_with fail
  go_loopw [6] (fun s6 wr=>∃ k:Nat,k<=r.E.length/\s6= .int .i64 (k:Int)/\(∀ j,j<k->ltID (r.E.getD j re0).id i=true)/\SW w.heap.size w [cellOb (w.heap.size+1) 31 #[.int .u64 i.1,.int .i64 i.2],cellOb w.heap.size 54 #[.slice r.A r.E.length r.c,.slice r.B r.E.length r.k],r3Ob r] wr) (fun s6 _=>r.E.length-(intOf s6).toNat)
  case atStart=>exact ⟨0,Nat.zero_le _,rfl,(fun j hj=>by omega),S0.out⟩
  obtain ⟨k,hk,rfl,hbf,hs⟩:=hrel;have HBF:=hid hbf;have S1:=hid hs;clear hbf hs S0;have c0:=(S1.out.cell 1 rfl).cell 0;have c1:=(S1.out.cell 1 rfl).cell 1;have d0:=(S1.out.cell 0 rfl).cell 0;have d1:=(S1.out.cell 0 rfl).cell 1;have l0:=(S1.out.cell 1 rfl).lt;have l1:=(S1.out.cell 0 rfl).lt;by_cases hlt:k<r.E.length
  · obtain ⟨e,he⟩:∃ e,r.E.getD k re0=e:=⟨_,rfl⟩;obtain ⟨g,hA,hgl,a0,a1,_⟩:=(S1.out.get 2 (o:=r3Ob r) rfl:R3Ok wr r).chunk hlt he;have HE:=hid he;have hltb:decide ((k:Int)<(r.E.length:Int))=true:=decide_eq_true (by omega);have HL:Hid (∀ q:Ext wr,Calls Tryz.prog 149 #[.agg #[.int .u64 e.id.1,.int .i64 e.id.2],.agg #[.int .u64 i.1,.int .i64 i.2]] (wext wr q) (Gives (.bool (ltID e.id i)) (wext wr q))):=fun q=>Less_any e.id.1 e.id.2 i.1 i.2 (wext wr q);rw [hA] at c0;clear he;obtain ⟨v,hv⟩:∃ v,ltID e.id i=v:=⟨_,rfl⟩;rw [hv] at HL;have HVV:=hid hv;clear hv;go_upto_region 2 with fail
    refine wp_region_ext (by kernel_rfl) (by kernel_rfl) ?_;repeat (go_big_quiet_step ((go_at_call 149;exact ext_call (HL.out _))))
    refine wpQuiet_nil ?_;intro w2 hb2;have S2:=hid (S1.out.on hb2);clear hb2 c0 c1 d0 d1 a0 a1 HL S1;cases v with
    | true=>
     go_wp2_with fail
     go_roundw
     case rel=>
      refine ⟨k+1,by omega,by go_num,fun j hj=>?_,S2.out⟩;by_cases e2:j=k
      · subst e2;rw [HE.out];exact HVV.out
      exact HBF.out j (by omega)
     simp [intOf];omega
    | false=>
     go_wp2_with fail
     go_meet;refine ⟨?_,S2.out⟩;rw [<- HK.out,atI_eq hk HBF.out (.inr (by rw [HE.out];exact HVV.out))]
  have hltb:decide ((k:Int)<(r.E.length:Int))=false:=decide_eq_false (by omega);go_upto_region 2 with fail
  refine wp_region_ext (by kernel_rfl) (by kernel_rfl) ?_;repeat (go_big_quiet_step (fail))
  refine wpQuiet_nil ?_;intro w2 hb2;have S2:=hid (S1.out.on hb2);clear hb2 c0 c1 d0 d1 S1;go_wp2_with fail
  go_meet;refine ⟨?_,S2.out⟩;rw [<- HK.out,atI_eq hk HBF.out (.inl (by omega))]
 obtain ⟨rfl,s⟩:=hcut;have S1:=hid s;clear s S0;have c0:=(S1.out.cell 1 rfl).cell 0;have d0:=(S1.out.cell 0 rfl).cell 0;have d1:=(S1.out.cell 0 rfl).cell 1;have l0:=(S1.out.cell 1 rfl).lt;have l1:=(S1.out.cell 0 rfl).lt;by_cases hlt:K<r.E.length
 · obtain ⟨e,he⟩:∃ e,r.E.getD K re0=e:=⟨_,rfl⟩;obtain ⟨g,hA,hgl,a0,a1,_⟩:=(S1.out.get 2 (o:=r3Ob r) rfl:R3Ok wc r).chunk hlt he;have hltb:decide ((K:Int)<(r.E.length:Int))=true:=decide_eq_true (by omega);rw [hA] at c0;have heq:=fun W=>eql31 e.id i W
   have hv:decide (e.id=i)=V:=by
    rw [<- HV.out];unfold hasAt;rw [HK.out,zA hlt];rw [List.getD_eq_getElem?_getD,zA hlt] at he;rw [<- he];rfl
   rw [hv] at heq;clear he hv HK HV;go_upto_region 4 with fail
   go_quiet (fail)
   go_wp2_with fail
   go_ret2;exact ⟨rfl,bdrewN S1.out.2 _⟩
 have hltb:decide ((K:Int)<(r.E.length:Int))=false:=decide_eq_false (by omega)
 have hv:V=false:=by
  rw [<- HV.out];unfold hasAt;rw [HK.out,List.getElem?_eq_none (by omega)]
 subst hv;go_upto_region 4 with fail
 go_quiet (fail)
 go_wp2_with fail
 go_ret2;exact ⟨rfl,bdrewN S1.out.2 _⟩
abbrev R3.ids (r:R3):List ID:=r.E.map (·.id)
theorem rIDs_any {b:Nat} {w0 w:World} {l:List Ob} {r:R3} (h:SW b w0 l w) (hm:r3Ob r∈l):Calls Tryz.prog 70 #[.agg #[.slice r.A r.E.length r.c,.slice r.B r.E.length r.k]] w (fun e w'=>∃ A cap,e= .returned (.slice A r.ids.length cap)/\SW b w0 (riOb A r.ids::l) w'):=by
 have S0:=hid (h.newCell 54 #[.slice r.A r.E.length r.c,.slice r.B r.E.length r.k]);have HM:Hid (r3Ob r∈cellOb w.heap.size 54 #[.slice r.A r.E.length r.c,.slice r.B r.E.length r.k]::l):=List.mem_cons_of_mem _ hm;have hn:=(h.1.holds _ hm:R3Ok w r).n;clear h hm;go_enter Tryz.func70,Tryz.ntmps70;go_wp2_with fail
 go_loopw [3,4] (fun s3 s4 wr=>∃ (k:Nat) (A:Option Addr) (cap:Nat),k<=r.E.length/\s4= .int .i64 (k:Int)/\s3= .slice A (r.ids.take k).length cap/\SW b w0 (rowOb 31 2 (.slice A (r.ids.take k).length cap) (r.ids.take k).length ((r.ids.take k).flatMap encID)::cellOb w.heap.size 54 #[.slice r.A r.E.length r.c,.slice r.B r.E.length r.k]::l) wr) (fun _ s4 _=>r.E.length-(intOf s4).toNat)
 case atStart=>exact ⟨0,none,0,Nat.zero_le _,rfl,rfl,S0.out.newRow 31 2⟩
 obtain ⟨k,A,cap,hk,rfl,rfl,hs⟩:=hrel;have S1:=hid hs;clear hs S0;have c0:=(S1.out.cell 1 rfl).cell 0;by_cases hlt:k<r.E.length
 · obtain ⟨e,he⟩:∃ e,r.E.getD k re0=e:=⟨_,rfl⟩;obtain ⟨g,hA,hgl,a0,a1,_⟩:=(S1.out.1.holds (r3Ob r) (List.mem_cons_of_mem _ HM.out):R3Ok wr r).chunk hlt he;rw [hA] at c0;have hik:k<r.ids.length:=by simpa using hlt
   have hts:r.ids.take (k+1)=r.ids.take k++[e.id]:=by
    rw [List.take_succ_eq_append_getElem hik];congr 2
    rw [List.getElem_map, <- he,List.getD_eq_getElem?_getD,zA hlt];rfl
   have HTS:=hid hts;have hfl:(r.ids.take k).length<=k:=by rw [List.length_take];omega
   generalize r.ids.take k=F at S1 HTS hfl |-; obtain ⟨i1,gi,gz0,gz1,gz2⟩:=info_parts info31;clear he hts hik hA;go_wp2_with (at_builtin;(refine wpList_rowS (t:=38) (e:=31) (size:=2) (bytes:=16) (i:=i1) (S1.out.alloc _) 0 rfl (by rfl) (.tmp 12) (.tmp 19) (by rfl) Tryz.underlying38 gi gz0 gz1 gz2 rfl (by omega) (by rfl) ⟨wr.heap.size,0,none⟩ 1 [.int .u64 e.id.1,.int .i64 e.id.2] (by rfl) rfl (two_new wr _ _ 31 _ rfl) (encID_one e.id) (by unfold maxLen;omega) (by omega) ?_);refine halt_ ?_)
   intro v4 w4 s4;obtain ⟨g4,c4,rfl⟩:=own_some (s4.get 0 rfl) (by omega)
   have S4:Hid (SW b w0 (rowOb 31 2 (.slice (some ⟨g4,0,none⟩) (F++[e.id]).length c4) (F++[e.id]).length ((F++[e.id]).flatMap encID)::cellOb w.heap.size 54 #[.slice r.A r.E.length r.c,.slice r.B r.E.length r.k]::l) w4):=by
    rw [Hid,List.flatMap_append,List.length_append];exact s4
   clear s4 S1 c0 a0 a1;go_wp2_with fail
   go_roundw
   case rel=>
    refine ⟨k+1,some ⟨g4,0,none⟩,c4,by omega,by go_num,?_,?_⟩
    · rw [HTS.out,List.length_append];rfl
    rw [HTS.out];exact S4.out
   simp [intOf];omega
 obtain rfl:k=r.E.length:=by omega
 have hF:r.ids.take r.E.length=r.ids:=by rw [List.take_of_length_le (by simp)]
 rw [hF] at S1 |-; go_wp2_with fail
 go_ret;exact ⟨A,cap,rfl,(S1.out.rowRi).sub (List.Sublist.cons_cons _ (List.sublist_cons_self _ _))⟩
end
section
open Go.RowKit
inductive Tr where
 | nil
 | take (k:Nat) (t:Tr)
 | one (k:Nat) (t:Tr)
 | two (k:Nat) (t:Tr) (k2:Nat) (t2:Tr)
 | three (k:Nat) (t:Tr) (k2:Nat) (t2:Tr) (k3:Nat) (t3:Tr)
section
variable {P:Program} {ops:Array Oper} {md:Region.Mode} {S:World->Prop} {Q:Exit->Act->World->Prop}
def runC (P:Program) (ops:Array Oper) (Q:Exit->Act->World->Prop) (S:World->Prop) (o:Oper) (K:Act->World->Prop) (a:Act) (w:World):Prop:=
 if Region.wanted o (yielded ops a.tmps)=true then Oper.wp P o a w (fun a' w'=>S w'/\K a' w') Q else S w/\K (a.put o.dst undef) w
def wpTr (P:Program) (ops:Array Oper) (Q:Exit->Act->World->Prop) (S:World->Prop) (T:Act->World->Prop):Tr->Act->World->Prop
 | .nil,a,w=>T a w
 | .take k t,a,w=>∃ v,YieldsIf P ops S (ops.getD k default) v a/\wpTr P ops Q S T t (a.put (ops.getD k default).dst v) w
 | .one k t,a,w=>runC P ops Q S (ops.getD k default) (wpTr P ops Q S T t) a w
 | .two k t k2 t2,a,w=>runC P ops Q S (ops.getD k default) (wpTr P ops Q S T t) a w/\runC P ops Q S (ops.getD k2 default) (wpTr P ops Q S T t2) a w
 | .three k t k2 t2 k3 t3,a,w=>runC P ops Q S (ops.getD k default) (wpTr P ops Q S T t) a w/\runC P ops Q S (ops.getD k2 default) (wpTr P ops Q S T t2) a w/\runC P ops Q S (ops.getD k3 default) (wpTr P ops Q S T t3) a w
def treeB (md:Region.Mode) (ops:Array Oper) (n g:Nat):Nat->Tr->Array Bool->Bool
 | 0,.nil,listed=>Region.seqB md ops g n listed
 | f+1,.take k t,listed=>decide (k<n)&&(Region.ready md ops listed).contains k&&Region.free md ops listed k&&treeB md ops n g f t (listed.setIfInBounds k true)
 | f+1,.one k t,listed=>decide (k<n)&&decide (Region.ready md ops listed=[k])&&treeB md ops n g f t (listed.setIfInBounds k true)
 | f+1,.two k t k2 t2,listed=>decide (k<n)&&decide (k2<n)&&decide (Region.ready md ops listed=[k,k2])&&treeB md ops n g f t (listed.setIfInBounds k true)&&treeB md ops n g f t2 (listed.setIfInBounds k2 true)
 | f+1,.three k t k2 t2 k3 t3,listed=>decide (k<n)&&decide (k2<n)&&decide (k3<n)&&decide (Region.ready md ops listed=[k,k2,k3])&&treeB md ops n g f t (listed.setIfInBounds k true)&&treeB md ops n g f t2 (listed.setIfInBounds k2 true)&&treeB md ops n g f t3 (listed.setIfInBounds k3 true)
 | _,_,_=>false
theorem runC_op {k:Nat} {K:Act->World->Prop} {a:Act} {w:World} (hk:k<ops.size) (h:runC P ops Q S (ops.getD k default) K a w):wpOp P ops Q k (fun a' w'=>S w'/\K a' w') a w:=by
 have h0:ops[k]? =some (ops.getD k default):=by simp [Array.getD_eq_getD_getElem?, hk]
 unfold wpOp;simp only [h0];unfold runC at h;by_cases hwt:Region.wanted (ops.getD k default) (yielded ops a.tmps)=true
 · rw [if_pos hwt] at h |-; exact .inl h
 rw [if_neg hwt] at h |-; exact h
theorem headH_of_tree {n g:Nat} {T:Act->World->Prop} (hsel:Region.noSelect ops=true) (hQ:∀ c a d v w,Q (.panic c) (a.put d v) w->Q (.panic c) a w) (hs:Region.sinkB md ops n=true) (hc:Region.chainB md ops n=true) (hn:n<ops.size):
 ∀ (f:Nat) (t:Tr) (listed:Array Bool) (a:Act) (w:World),HeadInv md ops n listed->S w->
 treeB md ops n g f t listed=true->wpTr P ops Q S T t a w->
 headH P md ops Q S n (fun listed' a' w'=>Region.seqB md ops g n listed'=true/\T a' w') f listed a w
 | 0,.nil,listed,a,w,_,_,hB,h=>⟨by simpa [treeB] using hB,by simpa [wpTr] using h⟩
 | f+1,.take k t,listed,a,w,inv,hS,hB,h=>by
  simp only [treeB,Bool.and_eq_true,decide_eq_true_eq] at hB;obtain ⟨⟨⟨hkn,hr⟩,hf⟩,hB'⟩:=hB;have hk:k<ops.size:=by omega
  have h0:ops[k]? =some (ops.getD k default):=by simp [Array.getD_eq_getD_getElem?, hk]
  have hr':k∈Region.ready md ops listed:=by simpa using hr
  obtain ⟨v,hy,hK⟩:∃ v,YieldsIf P ops S (ops.getD k default) v a/\wpTr P ops Q S T t (a.put (ops.getD k default).dst v) w:=h
  exact headH_first h0 (Region.noSelect_spec hsel) hQ hs hc hn hkn (fun listed' a' w' hL=>seqB_ready hL.1) f listed a w inv (Region.free_spec h0 hf) hr' hy hS
   (headH_of_tree hsel hQ hs hc hn f t _ _ w (inv.set hr' hkn) hS hB' hK)
 | f+1,.one k t,listed,a,w,inv,hS,hB,h=>by
  simp only [treeB,Bool.and_eq_true,decide_eq_true_eq] at hB;obtain ⟨⟨hkn,hr⟩,hB'⟩:=hB;refine ⟨fun h1=>(by rw [hr] at h1;cases h1),fun i hi=>?_⟩;have hr':i∈Region.ready md ops listed:=hi;rw [hr] at hi;obtain rfl:i=k:=by simpa using hi
  exact ⟨hkn,wpOp_mono (fun a' w' h'=>⟨h'.1,headH_of_tree hsel hQ hs hc hn f t _ a' w' (inv.set hr' hkn) h'.1 hB' h'.2⟩) (runC_op (by omega) h)⟩
 | f+1,.two k t k2 t2,listed,a,w,inv,hS,hB,h=>by
  simp only [treeB,Bool.and_eq_true,decide_eq_true_eq] at hB;obtain ⟨⟨⟨⟨hkn,hkn2⟩,hr⟩,hB'⟩,hB2⟩:=hB;refine ⟨fun h1=>(by rw [hr] at h1;cases h1),fun i hi=>?_⟩;have hr':i∈Region.ready md ops listed:=hi;rw [hr] at hi;simp only [List.mem_cons,List.not_mem_nil,or_false] at hi;obtain ⟨h1,h2⟩:runC P ops Q S (ops.getD k default) (wpTr P ops Q S T t) a w/\runC P ops Q S (ops.getD k2 default) (wpTr P ops Q S T t2) a w:=h;rcases hi with rfl | rfl
  · exact ⟨hkn,wpOp_mono (fun a' w' h'=>⟨h'.1,headH_of_tree hsel hQ hs hc hn f t _ a' w' (inv.set hr' hkn) h'.1 hB' h'.2⟩) (runC_op (by omega) h1)⟩
  exact ⟨hkn2,wpOp_mono (fun a' w' h'=>⟨h'.1,headH_of_tree hsel hQ hs hc hn f t2 _ a' w' (inv.set hr' hkn2) h'.1 hB2 h'.2⟩) (runC_op (by omega) h2)⟩
 | f+1,.three k t k2 t2 k3 t3,listed,a,w,inv,hS,hB,h=>by
  simp only [treeB,Bool.and_eq_true,decide_eq_true_eq] at hB;obtain ⟨⟨⟨⟨⟨⟨hkn,hkn2⟩,hkn3⟩,hr⟩,hB'⟩,hB2⟩,hB3⟩:=hB;refine ⟨fun h1=>(by rw [hr] at h1;cases h1),fun i hi=>?_⟩;have hr':i∈Region.ready md ops listed:=hi;rw [hr] at hi;simp only [List.mem_cons,List.not_mem_nil,or_false] at hi;obtain ⟨h1,h2,h3⟩:runC P ops Q S (ops.getD k default) (wpTr P ops Q S T t) a w/\runC P ops Q S (ops.getD k2 default) (wpTr P ops Q S T t2) a w/\runC P ops Q S (ops.getD k3 default) (wpTr P ops Q S T t3) a w:=h;rcases hi with rfl | rfl | rfl
  · exact ⟨hkn,wpOp_mono (fun a' w' h'=>⟨h'.1,headH_of_tree hsel hQ hs hc hn f t _ a' w' (inv.set hr' hkn) h'.1 hB' h'.2⟩) (runC_op (by omega) h1)⟩
  · exact ⟨hkn2,wpOp_mono (fun a' w' h'=>⟨h'.1,headH_of_tree hsel hQ hs hc hn f t2 _ a' w' (inv.set hr' hkn2) h'.1 hB2 h'.2⟩) (runC_op (by omega) h2)⟩
  exact ⟨hkn3,wpOp_mono (fun a' w' h'=>⟨h'.1,headH_of_tree hsel hQ hs hc hn f t3 _ a' w' (inv.set hr' hkn3) h'.1 hB3 h'.2⟩) (runC_op (by omega) h3)⟩
 | 0,.take _ _,_,_,_,_,_,hB,_=>by simp [treeB] at hB
 | 0,.one _ _,_,_,_,_,_,hB,_=>by simp [treeB] at hB
 | 0,.two _ _ _ _,_,_,_,_,_,hB,_=>by simp [treeB] at hB
 | 0,.three _ _ _ _ _ _,_,_,_,_,_,hB,_=>by simp [treeB] at hB
 | f+1,.nil,_,_,_,_,_,hB,_=>by simp [treeB] at hB
def treeTailB (md:Region.Mode) (ops:Array Oper) (n:Nat) (t:Tr):Bool:=
 Region.noSelect ops&&decide (n<ops.size)&&Region.sinkB md ops n&&Region.chainB md ops n&&treeB md ops n (ops.size-n) n t (Array.replicate ops.size false)
theorem wp_region_tree {id:Nat} {a:Act} {w:World} {l:List Oper} (n:Nat) (t:Tr) (S:World->Prop) (hm:P.follows .mixedOrders=true) (hQ:∀ c a d v w,Q (.panic c) (a.put d v) w->Q (.panic c) a w) (hB:treeTailB .any l.toArray n t=true) (hS:S w.drew)
 (h:wpTr P l.toArray Q S (fun a' w'=>wpList P l.toArray Q (l.drop n) a' w') t a w.drew):(Code.region id l.toArray true).wp P Q a w:=by
 simp only [treeTailB,Bool.and_eq_true,decide_eq_true_eq] at hB;obtain ⟨⟨⟨⟨hsel,hn⟩,hs⟩,hc⟩,hlex⟩:=hB;have hdl:(l.drop n).length=l.toArray.size-n:=by simp
 have inv0:HeadInv .any l.toArray n (Array.replicate l.toArray.size false):=
  ⟨by simp,fun j oj _ hl=>(by rw [getD_replicate_false] at hl;cases hl),fun t _ ht=>getD_in (by simpa using ht) (getD_replicate_false _ _)⟩
 have H:=headH_of_tree (md:=.any) (g:=l.toArray.size-n) hsel hQ hs hc hn n t _ a w.drew inv0 hS hlex h;refine wp_region_any hm ?_
 have:=any_of_headH (Q:=Q) (S:=S) (g:=l.toArray.size-n) (fun listed a' w' hL=>by
  have:=wpAny_of_seq (md:=.any) (Q':=Q) (l.drop n) n listed a' w' (fun j=>by simp [List.getElem?_drop]) (by rw [hdl];exact hL.1) hL.2;rwa [hdl] at this) _ _ _ _ H
 rw [show n+(l.toArray.size-n)=l.toArray.size by omega] at this;exact this
theorem wpTr_nil {T:Act->World->Prop} {a:Act} {w:World} (h:T a w):wpTr P ops Q S T .nil a w:=h
theorem wpTr_take {T:Act->World->Prop} {k:Nat} {t:Tr} {a:Act} {w:World} {o:Oper} (ho:ops.getD k default=o) (v:Value) (hy:YieldsIf P ops S o v a) (h:wpTr P ops Q S T t (a.put o.dst v) w):wpTr P ops Q S T (.take k t) a w:=by
 subst ho;exact ⟨v,hy,h⟩
theorem wpTr_run {K:Act->World->Prop} {k:Nat} {a:Act} {w:World} {o:Oper} (ho:ops.getD k default=o) (h:∀ K':Act->World->Prop,Shut (∀ a w,S w->K a w->K' a w)->if Region.wanted o (yielded ops a.tmps)=true then Oper.wp P o a w K' Q else K' (a.put o.dst undef) w):runC P ops Q S (ops.getD k default) K a w:=by
 subst ho;exact h _ (fun _ _ h1 h2=>⟨h1,h2⟩)
theorem getD_lit {l:List Oper} {k:Nat} {o:Oper} (h:l[k]? =some o):l.toArray.getD k default=o:=by
 simp only [Array.getD_eq_getD_getElem?, List.getElem?_toArray,h,Option.getD_some]
theorem wpTr_runL {l:List Oper} {K:Act->World->Prop} {k:Nat} {a:Act} {w:World} {o:Oper} (ho:l[k]? =some o) (h:∀ K':Act->World->Prop,Shut (∀ a w,S w->K a w->K' a w)->if Region.wanted o (yielded l.toArray a.tmps)=true then Oper.wp P o a w K' Q else K' (a.put o.dst undef) w):runC P l.toArray Q S (l.toArray.getD k default) K a w:=
 wpTr_run (getD_lit ho) h
theorem wpTr_takeL {l:List Oper} {T:Act->World->Prop} {k:Nat} {t:Tr} {a:Act} {w:World} {o:Oper} (ho:l[k]? =some o) (v:Value) (hy:YieldsIf P l.toArray S o v a) (h:wpTr P l.toArray Q S T t (a.put o.dst v) w):wpTr P l.toArray Q S T (.take k t) a w:=
 wpTr_take (getD_lit ho) v hy h
theorem wpTr_one {T:Act->World->Prop} {k:Nat} {t:Tr} {a:Act} {w:World} (h:runC P ops Q S (ops.getD k default) (wpTr P ops Q S T t) a w):wpTr P ops Q S T (.one k t) a w:=h
theorem wpTr_two {T:Act->World->Prop} {k k2:Nat} {t t2:Tr} {a:Act} {w:World} (h:runC P ops Q S (ops.getD k default) (wpTr P ops Q S T t) a w) (h2:runC P ops Q S (ops.getD k2 default) (wpTr P ops Q S T t2) a w):wpTr P ops Q S T (.two k t k2 t2) a w:=⟨h,h2⟩
theorem wpTr_three {T:Act->World->Prop} {k k2 k3:Nat} {t t2 t3:Tr} {a:Act} {w:World} (h:runC P ops Q S (ops.getD k default) (wpTr P ops Q S T t) a w) (h2:runC P ops Q S (ops.getD k2 default) (wpTr P ops Q S T t2) a w) (h3:runC P ops Q S (ops.getD k3 default) (wpTr P ops Q S T t3) a w):wpTr P ops Q S T (.three k t k2 t2 k3 t3) a w:=⟨h,h2,h3⟩
end
end
end Go.Proofs.YteabgcollokgjaaGreatDoor
