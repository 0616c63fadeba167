/- Contracts of the walk, part 40. -/
import Derived.Deep.Cut
import Derived.Deep.CutBlock
import Derived.Deep.CutRange
import Derived.Test.YtmiknfneeipkeaaGreatS28
import Derived.Test.YtmiknfneeipkeaaGreatS39
open Go.Lib (hid)
namespace Go.Proofs.YtmiknfneeipkeaaGreat
open Go.RowKit Go.MapKept Go.ChangeMaps Go.Shelf Go.Sort
attribute [local go_sem] wext_cell
def OkL (e:CH):Prop:=e.2.d.len=e.2.bs.length/\e.2.bs.length<=e.2.d.cap/\(e.2.d.A=none->e.2.d.cap=0)/\e.2.bs.length<=1048575
def encBs (e:CH):List Value:=[.slice e.2.d.A e.2.d.len e.2.d.cap]
theorem encBs_len (e:CH):(encBs e).length=1:=rfl
section
variable {b:Nat} {w0 w w':World} {l:List Ob}
theorem rb_nil (w:World):RB w ⟨none,0,0⟩ []:=⟨rfl,Nat.le_refl _,fun _=>rfl,fun ad e=>by cases e⟩
theorem SW.noBuf (h:SW b w0 l w):SW b w0 (bufOb ⟨none,0,0⟩ []::l) w:=SW.newBuT h (Below.refl _ _) (rb_nil w) (fun g hg=>by cases hg)
theorem SW.bsRs (h:SW b w0 l w) {S:List CH} (hS:bsOb S∈l) {e:CH} (he:e∈S):SW b w0 (rsOb e.2.d.A e.2.bs::l) w:=by
 have hT:(bsOb S).holds w:=h.1.holds _ hS;exact SW.again (o':=rsOb e.2.d.A e.2.bs) h hS (fun _ h=>h) (hT e he).1 (fun _ h=>h) (fun i hi=>⟨e,he,hi⟩)
theorem SW.bsMore {S:List CH} (h:SW b w0 (bsOb S::l) w) {A:Option Addr} {bs:List UInt8} (hr:rsOb A bs∈l) {n c:Nat} (hn:n=bs.length) (hc:n<=c) (i:ID):SW b w0 (bsOb ((i,⟨⟨A,n,c⟩,bs⟩)::S)::l) w:=by
 have hR:RS w A bs:=h.1.holds _ (.tail _ hr);have hT:(bsOb S).holds w:=h.get 0 rfl;have h1:SW b w0 (rsOb A bs::bsOb S::l) w:=SW.again (o':=rsOb A bs) h (.tail _ hr) (fun _ h=>h) hR (fun _ h=>h) (fun _ h=>h);refine SW.fuse (pre:=[rsOb A bs,bsOb S]) h1 (fun e he=>?_) (fun _ h=>h) (fun j hj=>?_)
 · rcases List.mem_cons.1 he with rfl | he
   · exact ⟨hR,hn,hc⟩
   exact hT e he
 obtain ⟨e,he,hp⟩:=hj;rcases List.mem_cons.1 he with rfl | he
 · exact ⟨_,.head _,.inr hp⟩
 exact ⟨_,.tail _ (.head _),.inr ⟨e,he,hp⟩⟩
theorem SW.noBs (h:SW b w0 l w):SW b w0 (bsOb []::l) w:=SW.bufsBs (SW.noBufs h) (fun e he=>by cases he)
theorem run_append_zero (w:World) (ty:TypeId) (ad:Addr) (n c:Nat) (hc:n<=c) (A:Option Addr) (c2:Nat):(Builtin.append_ #[40,40] ty #[.slice (some ad) n c,.slice A 0 c2]).run Tryz.prog w= .ok (.slice (some ad) n c) w:=by
 have ht:Tryz.prog.underlying 40=some (.slice 5):=Tryz.underlying40;obtain ⟨i,hi,_⟩:=info_parts (show (Tryz.prog.info? 5).map (fun i=>(i.zero,i.size,i.bytes))=some (some (.int .u8 0),1,1) by kernel_rfl);cases A with
 | none=>simp [Builtin.append_,run_underlying ht,sizeOf,typeInfo,hi,Builtin.lenOf,Builtin.firstCells,hc,storeCells]
 | some ad2=>
  have h0:=run_loadCells_list (P:=Tryz.prog) w ad2 [] (fun j v hj=>by simp at hj);simp only [List.length_nil] at h0;simp [Builtin.append_,run_underlying ht,sizeOf,typeInfo,hi,Builtin.lenOf,Builtin.firstCells,hc,h0,storeCells]
section
variable {ops:Array Oper} {rest:List Oper} {o:Oper} {a:Act} {Q:Exit->Act->World->Prop}
theorem wpList_bufXn {ad:Addr} {m:Nat} {bs:List UInt8} (h:SW b w0 (bxOb ⟨some ad,m,m⟩ bs::l) w) (hm:bs.length=m) (hgd:o.guard=none) (s x:Operand) (ho:o.op= .call { callee:=.builtin .append,args:= #[s,x],argTypes:= #[40,40] }) (hs:a.eval s= .slice (some ad) m m)
 (A:Option Addr) (n c:Nat) (ns:List UInt8) (hx:a.eval x= .slice A n c) (hn:ns.length=n) (hsrc:SB w A ns) (hb:bs.length+n<=1099511627776)
 (hK:∀ (d':BD) (w':World),d'.len=(bs++ns).length->d'.len<=d'.cap->(d'.A=none->d'.cap=0)->SW b w0 (bxOb d' (bs++ns)::l) w'->wpList Tryz.prog ops Q rest (a.put o.dst (.slice d'.A d'.len d'.cap)) w'):wpList Tryz.prog ops Q (o::rest) a w:=by
 rcases Nat.eq_zero_or_pos n with h0 | h0
 · subst h0;have hns:ns=[]:=List.eq_nil_of_length_eq_zero hn;subst hns;refine wpList_plain hgd fun K hK'=>?_;unfold Oper.wp execOp;simp only [ho,resolve,invoke,builtin,Sem.run_bind,Sem.run_pure,Result.andThen_ok,List.map_toArray,List.map_cons,List.map_nil,hs,hx,run_append_zero w o.type ad m m (Nat.le_refl _) A c];exact hK' _ _ (hK ⟨some ad,m,m⟩ w (by rw [List.append_nil];exact hm.symm) (Nat.le_refl _) (fun e=>by cases e) (by rw [List.append_nil];exact h))
 exact wpList_bufX h hgd s x ho hs A n c ns hx hn h0 hsrc hb (fun d' w' h'=>by
  have hr:RB w' d' (bs++ns):=h'.get 0 (o:=bufOb d' (bs++ns)) rfl;exact hK d' w' hr.1.symm hr.2.1 hr.2.2.1 h'.bufX)
end
end
theorem pack_few2 {ids:List ID} {T:List CH} (hn:ids.length<=100) (ha:AllR ids T) (hs:∀ i∈ids,i.2<=9):(packP (selR ids T)).length<=10000:=by
 have hl:∀ e∈selR ids T,(frameP e).length<=50:=fun e he=>by
  obtain ⟨i,hi,rfl⟩:=List.mem_map.1 he;obtain ⟨x,hx⟩:=Option.isSome_iff_exists.1 (ha i hi);obtain ⟨_,h2,_⟩:=firstR_id hx;rw [hx,Option.getD_some];have h3:((x.2.bs.length:Nat):Int)=i.2:=congrArg Prod.snd h2;have h4:=hs i hi;have h5:=putU_ten (v:=x.2.bs.length) (by omega);have h6:=putU_ten (v:=fpSum x.2.bs) (by have:=fpSum_lt x.2.bs;unfold pP at this;omega);rw [frameP];simp only [List.length_append,List.length_singleton];omega
 have hsum:∀ l:List CH,(∀ e∈l,(frameP e).length<=50)->(l.flatMap frameP).length<=50*l.length:=by
  intro l;induction l with
  | nil=>intro _;simp
  | cons a l ih=>
   intro h;have h1:=ih (fun e he=>h e (.tail _ he));have h2:=h a (.head _);rw [List.flatMap_cons,List.length_append,List.length_cons];omega
 have h1:=hsum _ hl;have h2:=selR_len ids T;have h5:=putU_ten (v:=(selR ids T).length) (by omega);have h6:=putU_ten (v:=fpSum (packB (selR ids T))) (by have:=fpSum_lt (packB (selR ids T));unfold pP at this;omega);rw [packP,List.length_append]
 have h7:(packB (selR ids T)).length=4+((selR ids T).flatMap frameP).length+1+(putU (selR ids T).length).length:=by
  simp [packB,packF];omega
 omega
theorem few_vol {ms ys:List Man} {T:List CH} (h:FewS ms) (hm:∀ m∈ms,ManOk m) (ha:AllR (setR (idsOf ms)) T) (hy:ConM ms ys):(volB ys (selR (setR (idsOf ms)) T)).length<=1000000:=by
 have h1:=idsOf_few (B:=3) (fun m hm=>(h.2 m hm).1);have h2:=setR_len (idsOf ms);have h3:=h.1
 have h4:=pack_few2 (ids:=setR (idsOf ms)) (by omega) ha (fun i hi=>by
  rw [setR_mem] at hi;obtain ⟨m,hm,hi⟩:=List.mem_flatMap.1 hi;exact ((h.2 m hm).2 i hi).2)
 have h5:=conM_len hy;have h6:=volH_le (ys:=ys) (fun m h=>(hm m ((hy.2 m).1 h)).1) (fun m h=>(hm m ((hy.2 m).1 h)).2) (by omega) ys.length;have h7:=putU_ten (v:=ys.length) (by omega);rw [volB,List.length_append];omega
theorem row_le {w:World} {e:TypeId} {size:Nat} {v:Value} {n:Nat} {xs:List Value} (h:w.ownsRow 0 e size v n xs):n<=9223372036854775807:=by
 rcases h.2 with ⟨_,h0⟩ | ⟨g,cap,cur,_,_,_,hnc,hcm,_⟩
 · omega
 unfold maxLen at hcm;omega
theorem rst_len {bs:List UInt8} {i:ID} {m:Man} {F:List ID} {B:List (List UInt8)} {e:Int} (h:RstV bs i m F B e):F.length<=m.ids.length:=by
 rcases h with ⟨_,_,rfl,_⟩ | ⟨_,_,_,rfl,_⟩ | ⟨_,_,rfl,_⟩
 · exact firsts_len _
 · simp
 simp
theorem shl_u8 (v:Int) (h0:0<=v) (h1:v<8):∃ (c:UInt8) (z:Int),((c.toNat:Nat):Int)=z/\((v=0/\z=1)∨(v=1/\z=2)∨(v=2/\z=4)∨(v=3/\z=8)∨(v=4/\z=16)∨(v=5/\z=32)∨(v=6/\z=64)∨(v=7/\z=128)):=by
 have:v=0∨v=1∨v=2∨v=3∨v=4∨v=5∨v=6∨v=7:=by omega
 rcases this with rfl | rfl | rfl | rfl | rfl | rfl | rfl | rfl
 · exact ⟨1,1,rfl,by simp⟩
 · exact ⟨2,2,rfl,by simp⟩
 · exact ⟨4,4,rfl,by simp⟩
 · exact ⟨8,8,rfl,by simp⟩
 · exact ⟨16,16,rfl,by simp⟩
 · exact ⟨32,32,rfl,by simp⟩
 · exact ⟨64,64,rfl,by simp⟩
 exact ⟨128,128,rfl,by simp⟩
set_option maxRecDepth 100000 in
set_option maxHeartbeats 16000000 in
theorem law5_any {w:World} {l:List Ob} (h:SW w.heap.size w l w) {A:Option Addr} {L:List Int} (hin:inOb A L∈l) (cap:Nat) {RA:Option Addr} {raw:List UInt8} (hraw:rsOb RA raw∈l) (rc:Nat) (hrv:(RA=none->rc=0)/\raw.length<=rc) (hrl:raw.length<=1048571) (i1 i2:Int):
 Calls Tryz.prog 5 #[.slice RA raw.length rc,.slice A L.length cap,.agg #[.int .u64 i1,.int .i64 i2]] w (fun e w'=>e= .returned (.bool true)/\Below w.heap.size w w'):=by
 have HRAW:=hid hraw;have HRV:=hid hrv;have S1:=hid ((h.newCell 36 #[.int .u64 i1,.int .i64 i2]).newTape (.tail _ hin) cap (H:=w.heap.size+1) (by simp));have HC:=hid (contents_any S1.out (by omega));clear h hin hraw hrv;go_enter Tryz.func5,Tryz.ntmps5;go_wp2_with (go_at_call 8;(with_reducible refine HC.out.mono ?_);refine halt_ ?_)
 rintro e w1 ⟨Ps,p1,PA,CA,pc,cc,n1,rfl,hG,_,hn1,s1⟩;have HG:=hid hG;have HF:=hid (few_mans hG);have HCF:=hid (chs_few hG);have HFS:Hid (FewS (mansT Ps)):=⟨by rw [mansT_len];have:=hG.1;omega,fun m hm=>⟨(HF.out m hm).2.1,(HF.out m hm).2.2.2⟩⟩;have S2:=SW.bufsBs (S:=chsT Ps) (SW.front (pre:=[_,_,_,_]) s1 [3,0,1,2] (n:=4) rfl (by decide)) (fun e he=>(HCF.out.2 e he).2.2);rw [<- mansT_len Ps] at S2 |-; have hps:(mansT Ps).length<=3:=by rw [mansT_len];exact hG.1
 obtain ⟨gT,HGT⟩:∃ x,Hid (w.heap.size+1=x):=⟨_,rfl⟩;obtain ⟨g5,HG5⟩:∃ x,Hid (w.heap.size=x):=⟨_,rfl⟩
 have S3:Hid (SW w.heap.size w (rowOb 33 2 (.slice PA (mansT Ps).length pc) (mansT Ps).length (p1.flatMap encMR)::msOb p1 (mansT Ps)::rowOb 42 3 (.slice CA (chsT Ps).length cc) (chsT Ps).length ((chsT Ps).flatMap encCH)::bsOb (chsT Ps)::tpOb gT A cap L n1::cellOb g5 36 #[.int .u64 i1,.int .i64 i2]::l) w1):=by
  rw [Hid, <- HGT.out, <- HG5.out];exact SW.front (pre:=[_,_,_,_]) S2 [1,3,2,0] (n:=4) rfl (by decide)
 obtain ⟨ms,HMS⟩:∃ x,Hid (mansT Ps=x):=⟨_,rfl⟩;rw [HMS.out] at S3 HFS HF hps |-; obtain ⟨T,HTT⟩:∃ x,Hid (chsT Ps=x):=⟨_,rfl⟩;rw [HTT.out] at S3 HCF |-; have HMO:Hid (∀ m∈ms,ManOk m):=fun m hm=>⟨(HF.out m hm).1,fun i hi=>((HF.out m hm).2.2.2 i hi).1⟩;have HST0:=hid (rStore_b (im_row (S3.out.get 0 (o:=rowOb 33 2 (.slice PA ms.length pc) ms.length (p1.flatMap encMR)) rfl) (S3.out.get 1 (o:=msOb p1 ms) rfl)) (cx_row (S3.out.get 2 (o:=rowOb 42 3 (.slice CA T.length cc) T.length (T.flatMap encCH)) rfl) rfl (S3.out.get 3 (o:=bsOb T) rfl)) (by omega) (fun m hm=>by have:=(HF.out m hm).2.1;omega) (fun m hm=>(HMO.out m hm).2) (fun e he=>by have:=(HCF.out.2 e he).2.1;omega) (by have:=HCF.out.1;omega) (few_pack HFS.out T) pc cc)
 have HST:Hid (Calls Tryz.prog 12 #[.slice PA ms.length pc,.slice CA T.length cc] w1 (fun e w'=>∃ (dA:Option Addr) (dk:Nat) (bs:List UInt8) (f:Int),bs.length<=1000000/\((dA=none->dk=0)/\bs.length<=dk)/\e= .returned (.tuple #[.slice dA bs.length dk,.int .i64 f])/\SW w.heap.size w (tpOb gT A cap L n1::rowOb 33 2 (.slice PA ms.length pc) ms.length (p1.flatMap encMR)::msOb p1 ms::rsOb dA bs::cellOb g5 36 #[.int .u64 i1,.int .i64 i2]::l) w')):=by
  refine HST0.out.mono (fun e w' hst=>?_);obtain ⟨⟨dA,dl,dk⟩,bs,f,rfl,hb,hc⟩:=stoB_sum hst
  have hbl:bs.length<=1000000:=by
   rcases hc with ⟨_,_,rfl⟩ | ⟨_,_,_,rfl⟩ | ⟨_,_,ha,_,ys,hy,rfl⟩
   · simp
   · simp
   exact few_vol HFS.out HMO.out ha hy
  have hl:=hb.rb.1;simp only at hl;subst hl;have hv:=vw_of hb.rb (by omega);simp only at hv;have h1:=(SW.newBuT S3.out hb.bl hb.rb hb.nw).bufRs;exact ⟨dA,dk,bs,f,hbl,⟨hv.1,hv.2.1⟩,rfl,SW.few (pre:=[_,_,_,_,_,_,_]) h1 [5,1,2,0,6] (n:=7) rfl (by decide) (by decide)⟩
 clear S1 HC s1 hG S2 HMS HTT HST0;rw [HGT.out,HG5.out];go_wp2_with (go_at_call 12;(with_reducible refine HST.out.mono ?_);refine halt_ ?_)
 rintro e w2 ⟨dA,dk,bs,f,hbl,hbv,rfl,t2⟩;have S4:=hid t2;have HBV:=hid hbv;clear t2 S3 HST hbv;go_upto_region 4 with fail
 go_cut [46] from 39 to 47 (fun s46 w'=>∃ (q:Bool) (n':Nat),s46= .bool q/\(q=true->0<ms.length)/\n'<=300/\SW w.heap.size w (tpOb gT A cap L n'::rowOb 33 2 (.slice PA ms.length pc) ms.length (p1.flatMap encMR)::msOb p1 ms::rsOb dA bs::cellOb g5 36 #[.int .u64 i1,.int .i64 i2]::l) w')
 case first=>
  by_cases hm0:ms.length=0
  · have hd:decide ((0:Int)<(ms.length:Int))=false:=decide_eq_false (by omega);have hd2:decide (0<ms.length)=false:=decide_eq_false (by omega);go_wp2_with fail
    go_meet;exact ⟨false,n1,rfl,(fun h=>by cases h),by omega,S4.out⟩
  have hd:decide (0<ms.length)=true:=decide_eq_true (by omega);have hd2:decide ((0:Int)<(ms.length:Int))=true:=decide_eq_true (by omega);have HN1:=hid (Next_x S4.out 0 rfl 3 (by omega) (by omega));go_wp2_with (go_at_call 9;(with_reducible refine HN1.out.mono ?_);refine halt_ ?_)
  rintro e w3 ⟨rfl,s5⟩;have S5:Hid (SW w.heap.size w (tpOb gT A cap L (n1+1)::rowOb 33 2 (.slice PA ms.length pc) ms.length (p1.flatMap encMR)::msOb p1 ms::rsOb dA bs::cellOb g5 36 #[.int .u64 i1,.int .i64 i2]::l) w3):=s5;clear s5 HN1 S4;obtain ⟨hv0,hv1⟩:=tnext_in L n1 3;have hv1:=hv1 (by omega);generalize tnext L n1 3=v at hv0 hv1 |-; by_cases v0:v=0
  · subst v0;go_wp2_with fail
    go_meet;exact ⟨false,n1+1,rfl,(fun h=>by cases h),by omega,S5.out⟩
  have hd3:decide (0<v)=true:=decide_eq_true (by omega);go_wp2_with fail
  go_meet;exact ⟨true,n1+1,rfl,(fun _=>by omega),by omega,S5.out⟩
 obtain ⟨q,n3,rfl,hq,hn3,hs⟩:=hcut;have HQ:=hid hq;have S5:=hid hs;clear hs hq S4;go_upto_if 46 with fail
 go_cut [] from 47 (fun w'=>∃ (n':Nat) (j1 j2:Int),n'<=500/\SW w.heap.size w (tpOb gT A cap L n'::rsOb dA bs::cellOb g5 36 #[.int .u64 j1,.int .i64 j2]::l) w')
 case first=>
  cases q with
  | false=>
   go_wp2_with fail
   go_meet;exact ⟨n3,i1,i2,by omega,SW.few (pre:=[_,_,_,_,_]) S5.out [0,3,4] (n:=5) rfl (by decide) (by decide)⟩
  | true=>
   have hm0:=HQ.out rfl;have HN2:=hid (Next_x S5.out 0 rfl (ms.length:Int) (by omega) (by omega))
   obtain ⟨k,hk,hkl⟩:∃ k:Nat,Hid (tnext L n3 (ms.length:Int)=(k:Int))/\k<ms.length:=by
    have h1:=tnext_in L n3 (ms.length:Int);have h2:=tnext_lt L n3 (k:=(ms.length:Int)) (by omega);exact ⟨(tnext L n3 (ms.length:Int)).toNat,by rw [Hid];omega,by omega⟩
   rw [hk.out] at HN2;clear hk;go_wp2_with (go_at_call 9;(with_reducible refine HN2.out.mono ?_);refine halt_ ?_)
   rintro e w4 rfl s6;have S6:Hid (SW w.heap.size w (tpOb gT A cap L (n3+1)::rowOb 33 2 (.slice PA ms.length pc) ms.length (p1.flatMap encMR)::msOb p1 ms::rsOb dA bs::cellOb g5 36 #[.int .u64 i1,.int .i64 i2]::l) w4):=s6;clear s6 HN2 S5;obtain ⟨⟨z,rA,rn,rc2⟩,HR⟩:∃ r,Hid (p1.getD k mr0=r):=⟨_,rfl⟩;obtain ⟨m,HMK⟩:∃ m,Hid (ms.getD k man0=m):=⟨_,rfl⟩;have hmem:m∈ms:=by rw [<- HMK.out];exact getD_mem _ _ _ hkl
   have hmo:=HMO.out m hmem;have hM:=S6.out.1.holds (msOb p1 ms) (.tail _ (.tail _ (.head _)));have hlk:=hM.2 k hkl;rw [HR.out,HMK.out] at hlk;obtain ⟨l1,l2,l3,l4⟩:=hlk;simp only at l1 l2 l3 l4;subst l1 l2;have HPL:Hid (p1.length=ms.length):=hM.1;have hrow:w4.ownsRow 0 33 2 (.slice PA ms.length pc) ms.length (p1.flatMap encMR):=S6.out.get 1 rfl;obtain ⟨gM,cM,e7⟩:=own_some hrow (by omega);injection e7 with e7 e8 e9;clear e8 e9;subst e7
   have cellB:∀ a v,a<2->(encMR (⟨m.size,rA,m.ids.length,rc2⟩:MR))[a]? =some v->w4.cell? ⟨gM,k*2+a,none⟩=some v:=fun a v ha hv=>by
    rw [hrow.cellAt (k*2+a) (by omega),flat_at encMR_len mr0 _ k a (by rw [HPL.out];omega) ha,HR.out];exact hv
   have p0:w4.cell? ⟨gM,k*2,none⟩=some (.int .i64 m.size):=cellB 0 _ (by omega) rfl;have p2:w4.cell? ⟨gM,k*2+1,none⟩=some (.slice rA m.ids.length rc2):=cellB 1 _ (by omega) rfl;have hml:=manE_len hmo.1;have HWH:=hid (rWhole_ok _ m rA rc2 w4 l4 (by omega) hmo.2 hmo.1);obtain ⟨k1,k2,HKM⟩:∃ a c,Hid (keyM m=(a,c)):=⟨_,_,rfl⟩;rw [HKM.out] at HWH;clear hM l3 l4 hmem hrow hmo cellB;go_wp2_with (go_at_call 10;(with_reducible refine HWH.out.mono ?_);refine halt_ ?_)
   rintro e w5 ⟨rfl,hb5⟩;have S7:=hid (S6.out.on hb5);have f0:=(S7.out.cell 4 rfl).frozen 0;have f1:=(S7.out.cell 4 rfl).frozen 1;have z0:=(S7.out.cell 4 rfl).cell 0;have z1:=(S7.out.cell 4 rfl).cell 1;have S8:=hid ((S7.out.setAt 4 rfl 0 (.int .u64 k1)).setAt 4 rfl 1 (.int .i64 k2));clear hb5 HWH S6 p0 p2 S7;go_wp2_with fail
   go_meet;exact ⟨n3+1,k1,k2,by omega,SW.few (pre:=[_,_,_,_,_]) S8.out [0,3,4] (n:=5) rfl (by decide) (by decide)⟩
 obtain ⟨n2,j1,j2,hn2,hs⟩:=hcut;have S5b:=hid hs;clear hs S5;have HRS:Hid (∀ (W:World) (l':List Ob),SW w.heap.size w l' W->(∀ o∈l,o∈l')->SB W RA raw):=fun W l' h hl=>RS.sb (h.1.holds (rsOb RA raw) (hl _ HRAW.out));have S6:=hid (S5b.out.newX #[.int .u8 83,.int .u8 89,.int .u8 65,.int .u8 82] (4,5) [83,89,65,82] 4 rfl (by decide) rfl);rename World=>wc;have hcv:=Lib.run_convert_bytes_const (P:=Tryz.prog) wc 40 5 #[.int .u8 83,.int .u8 89,.int .u8 65,.int .u8 82] 4 4 Tryz.underlying40 Tryz.underlying5;go_wp2_with (at_builtin;refine halt_q ?_)
 refine wpList_bufXn S6.out rfl rfl _ _ rfl rfl RA raw.length rc raw rfl rfl (HRS.out _ _ S6.out (fun o ho=> .tail _ (.tail _ (.tail _ (.tail _ ho))))) (by simp only [List.length_cons,List.length_nil];omega) ?_;rintro ⟨d1A,d1l,d1c⟩ w6 hd1 hd2 hd3 s6;simp only at hd1 hd2 hd3;have HD1:Hid (d1l=([83,89,65,82]++raw:List UInt8).length/\d1l<=d1c/\(d1A=none->d1c=0)):=⟨hd1,hd2,hd3⟩;obtain ⟨c1,HC1⟩:∃ x:List UInt8,Hid (([83,89,65,82]++raw:List UInt8)=x):=⟨([83,89,65,82]++raw:List UInt8),rfl⟩
 have hc1l:c1.length<=1048575:=by
  rw [<- HC1.out,List.length_append];simp only [List.length_cons,List.length_nil];omega
 rw [HC1.out] at s6 HD1;have S7:=hid s6.noBuf;clear s6 S6 S5b hd1 hd2 hd3;go_wp2_with (at_builtin;refine halt_q ?_)
 refine wpList_bufS S7.out rfl _ _ rfl rfl dA bs.length dk bs rfl rfl (RS.sb (S7.out.get 3 (o:=rsOb dA bs) rfl)) (by simp only [List.length_nil];omega) ?_;rintro ⟨d2A,d2l,d2c⟩ w7 s7;rw [List.nil_append] at s7;have S8:=hid (SW.front (pre:=[_,_]) (s7.newX #[.int .u8 0] (0,0) [0] 1 rfl (by decide) rfl) [1,0] (n:=2) rfl (by decide))
 have HS0:Hid (SB _ (some ⟨w7.heap.size,0,none⟩) [0]):=(by
  have h1:=(S8.out.get 1 (o:=bxOb ⟨some ⟨w7.heap.size,0,none⟩,1,1⟩ [0]) rfl).1;rcases h1 with h1 | h1
  · exact h1.src
  exact h1.2.2.2)
 clear s7 S7;simp only [vB];go_wp2_with (at_builtin;refine halt_q ?_)
 refine wpList_bufS S8.out rfl _ _ rfl rfl (some ⟨w7.heap.size,0,none⟩) 1 1 [0] rfl rfl HS0.out (by omega) ?_;rintro ⟨d3A,d3l,d3c⟩ w8 s8;have S9:Hid (SW w.heap.size w (bufOb ⟨d3A,d3l,d3c⟩ (bs++[0])::bxOb ⟨d1A,d1l,d1c⟩ c1::tpOb gT A cap L n2::rsOb dA bs::cellOb g5 36 #[.int .u64 j1,.int .i64 j2]::l) w8):=SW.few (pre:=[_,_,_]) s8 [0,2] (n:=3) rfl (by decide) (by decide);have hrb3:RB w8 ⟨d3A,d3l,d3c⟩ (bs++[0]):=s8.get 0 (o:=bufOb ⟨d3A,d3l,d3c⟩ (bs++[0])) rfl;have HD3:Hid (d3l=(bs++[0]).length/\d3l<=d3c/\(d3A=none->d3c=0)):=⟨hrb3.1.symm,hrb3.2.1,hrb3.2.2.1⟩;clear s8 S8 HS0 hrb3;have S10:=hid (S9.out.newRowOf 40 1 4 #[.slice RA raw.length rc,.slice d1A d1l d1c,.slice dA bs.length dk,.slice d3A d3l d3c] rfl (by decide));simp only [vB];go_upto_region 7 with fail
 obtain ⟨gL,HGL⟩:∃ x,Hid (w8.heap.size=x):=⟨_,rfl⟩;obtain ⟨W10,HW10⟩:∃ x,Hid (w8.alloc (.cells #[.slice RA raw.length rc,.slice d1A d1l d1c,.slice dA bs.length dk,.slice d3A d3l d3c] 40)=x):=⟨_,rfl⟩;rw [HGL.out,HW10.out] at S10;rw [HGL.out,HW10.out];clear HGL HW10 S9;obtain ⟨TB,HTB⟩:=fold_of ([(id0,⟨⟨RA,raw.length,rc⟩,raw⟩),(id0,⟨⟨d1A,d1l,d1c⟩,c1⟩),(id0,⟨⟨dA,bs.length,dk⟩,bs⟩),(id0,⟨⟨d3A,d3l,d3c⟩,bs++[0]⟩)]:List CH)
 have HOK:Hid (∀ e∈TB,OkL e):=fun e he=>by
  rw [<- HTB.out] at he;simp only [List.mem_cons,List.not_mem_nil,or_false] at he;rcases he with rfl | rfl | rfl | rfl
  · exact ⟨rfl,HRV.out.2,HRV.out.1,by simp only;omega⟩
  · exact ⟨HD1.out.1,by have:=HD1.out;simp only;omega,HD1.out.2.2,hc1l⟩
  · exact ⟨rfl,HBV.out.2,HBV.out.1,by simp only;omega⟩
  exact ⟨HD3.out.1,by have:=HD3.out;simp only;omega,HD3.out.2.2,by simp only [List.length_append,List.length_singleton];omega⟩
 have HTLB:Hid (TB.length=4):=by rw [Hid, <- HTB.out];rfl
 have S11:Hid (SW w.heap.size w (rowOb 40 1 (.slice (some ⟨gL,0,none⟩) 4 4) 4 (TB.flatMap encBs)::bsOb TB::tpOb gT A cap L n2::rsOb dA bs::cellOb g5 36 #[.int .u64 j1,.int .i64 j2]::l) W10):=by
  have h1:SW w.heap.size w (bufOb ⟨d3A,d3l,d3c⟩ (bs++[0])::bxOb ⟨d1A,d1l,d1c⟩ c1::rowOb 40 1 (.slice (some ⟨gL,0,none⟩) 4 4) 4 [.slice RA raw.length rc,.slice d1A d1l d1c,.slice dA bs.length dk,.slice d3A d3l d3c]::tpOb gT A cap L n2::rsOb dA bs::cellOb g5 36 #[.int .u64 j1,.int .i64 j2]::l) W10:=SW.front (pre:=[_,_,_]) S10.out [1,2,0] (n:=3) rfl (by decide);have h2:=SW.front (pre:=[_,_,_]) (SW.noBs (h1.bufX)) [2,0,1] (n:=3) rfl (by decide);have h2:=SW.front (pre:=[_,_,_]) (SW.noBs (h1.bufX)) [1,0,2] (n:=3) rfl (by decide);have h3:=SW.bsCons h2 id0 ⟨HD3.out.1,HD3.out.2.1⟩;have h4:=SW.bsCons (SW.front (pre:=[_,_]) h3 [1,0] (n:=2) rfl (by decide)) id0 ⟨HD1.out.1,HD1.out.2.1⟩;have h5:=SW.bsMore h4 (A:=dA) (bs:=bs) (.tail _ (.tail _ (.head _))) (n:=bs.length) (c:=dk) rfl HBV.out.2 id0;have h6:=SW.bsMore h5 (A:=RA) (bs:=raw) (.tail _ (.tail _ (.tail _ (.tail _ HRAW.out)))) (n:=raw.length) (c:=rc) rfl HRV.out.2 id0
  have h7:SW w.heap.size w (bsOb TB::rowOb 40 1 (.slice (some ⟨gL,0,none⟩) 4 4) 4 [.slice RA raw.length rc,.slice d1A d1l d1c,.slice dA bs.length dk,.slice d3A d3l d3c]::tpOb gT A cap L n2::rsOb dA bs::cellOb g5 36 #[.int .u64 j1,.int .i64 j2]::l) W10:=SW.bsSub h6 (fun e he=>by
   rw [<- HTB.out] at he;simp only [List.mem_cons,List.not_mem_nil,or_false] at he |-; rcases he with h | h | h | h<;>simp [h])
  have h8:=SW.front (pre:=[_,_]) h7 [1,0] (n:=2) rfl (by decide);rw [Hid];have e:TB.flatMap encBs=[.slice RA raw.length rc,.slice d1A d1l d1c,.slice dA bs.length dk,.slice d3A d3l d3c]:=by rw [<- HTB.out];rfl
  rw [e];exact h8
 clear S10 HTB HD1 HD3 HC1;go_upto_if 71 with fail
 go_cut [12,13] from 71 (fun s12 s13 w'=>∃ (TB:List CH) (D:Option Addr) (dc:Nat),s12= .slice D TB.length dc/\TB.length<=10/\Hid (∀ e∈TB,OkL e)/\SW w.heap.size w (rowOb 40 1 (.slice D TB.length dc) TB.length (TB.flatMap encBs)::bsOb TB::cellOb g5 36 #[.int .u64 j1,.int .i64 j2]::l) w')
 case first=>
  by_cases hb0:bs.length=0
  · have hd:decide ((0:Int)<(bs.length:Int))=false:=decide_eq_false (by omega);have hd2:decide (0<bs.length)=false:=decide_eq_false (by omega);go_wp2_with fail
    go_meet;exact ⟨TB,some ⟨gL,0,none⟩,4,by rw [HTLB.out],by rw [HTLB.out];decide,HOK.out,by rw [HTLB.out];exact SW.few (pre:=[_,_,_,_,_]) S11.out [0,1,4] (n:=5) rfl (by decide) (by decide)⟩
  have hd:decide (0<bs.length)=true:=decide_eq_true (by omega);have hd2:decide ((0:Int)<(bs.length:Int))=true:=decide_eq_true (by omega);have S12:=hid S11.out.noBuf;clear S11;go_wp2_with (at_builtin;refine halt_q ?_)
  refine wpList_bufS S12.out rfl _ _ rfl rfl dA bs.length dk bs rfl rfl (RS.sb (S12.out.get 4 (o:=rsOb dA bs) rfl)) (by simp only [List.length_nil];omega) ?_;rintro ⟨d4A,d4l,d4c⟩ w12 s12;rw [List.nil_append] at s12;have hrb4:RB w12 ⟨d4A,d4l,d4c⟩ bs:=s12.get 0 (o:=bufOb ⟨d4A,d4l,d4c⟩ bs) rfl;obtain ⟨g4,hgA,_,_,_⟩:=rb_cells hrb4 (by omega);simp only at hgA;subst hgA;obtain rfl:bs.length=d4l:=hrb4.1;have HD4:Hid (bs.length<=d4c):=hrb4.2.1;have S13:=hid s12;clear s12 S12 hrb4;simp only [vB];go_upto_region 9 with fail
  go_cut [] from 74 to 86 (fun w'=>∃ (n':Nat) (cs:List UInt8),n'<=600/\Hid (cs.length=bs.length)/\SW w.heap.size w (bufOb ⟨some ⟨g4,0,none⟩,bs.length,d4c⟩ cs::rowOb 40 1 (.slice (some ⟨gL,0,none⟩) 4 4) 4 (TB.flatMap encBs)::bsOb TB::tpOb gT A cap L n'::rsOb dA bs::cellOb g5 36 #[.int .u64 j1,.int .i64 j2]::l) w')
  case first=>
   have HN1:=hid (Next_x S13.out.drew 3 rfl (bs.length:Int) (by omega) (by omega))
   obtain ⟨k,hk,hkl⟩:∃ k:Nat,Hid (tnext L n2 (bs.length:Int)=(k:Int))/\k<bs.length:=by
    have h1:=tnext_in L n2 (bs.length:Int);have h2:=tnext_lt L n2 (k:=(bs.length:Int)) (by omega);exact ⟨(tnext L n2 (bs.length:Int)).toNat,by rw [Hid];omega,by omega⟩
   rw [hk.out] at HN1;obtain ⟨y0,HY0⟩:∃ y,Hid (bs.getD k 0=y):=⟨_,rfl⟩
   have HV0:Hid (∀ W n',SW w.heap.size w (bufOb ⟨some ⟨g4,0,none⟩,bs.length,d4c⟩ bs::rowOb 40 1 (.slice (some ⟨gL,0,none⟩) 4 4) 4 (TB.flatMap encBs)::bsOb TB::tpOb gT A cap L n'::rsOb dA bs::cellOb g5 36 #[.int .u64 j1,.int .i64 j2]::l) W->W.cell? ⟨g4,k,none⟩=some (.int .u8 ((y0.toNat:Nat):Int))/\W.frozen? ⟨g4,k,none⟩=false):=fun W n' h=>by
    obtain ⟨g',e',_,hc,hf⟩:=rb_cells (show RB W ⟨some ⟨g4,0,none⟩,bs.length,d4c⟩ bs from h.get 0 (o:=bufOb ⟨some ⟨g4,0,none⟩,bs.length,d4c⟩ bs) rfl) (by omega);simp only [Option.some.injEq,Addr.mk.injEq,and_true] at e';subst e';have h1:=hc k hkl;rw [HY0.out] at h1;exact ⟨h1,hf k⟩
   clear hk;refine wp_region_held_tail [(0,true),(1,true),(2,true),(3,true),(7,true),(4,false),(5,true),(6,true),(8,false),(9,true)] (fun w'=>∃ n',n'<=600/\SW w.heap.size w (bufOb ⟨some ⟨g4,0,none⟩,bs.length,d4c⟩ bs::rowOb 40 1 (.slice (some ⟨gL,0,none⟩) 4 4) 4 (TB.flatMap encBs)::bsOb TB::tpOb gT A cap L n'::rsOb dA bs::cellOb g5 36 #[.int .u64 j1,.int .i64 j2]::l) w') (by kernel_rfl) (fun _ _ d _ _ h=>by cases d<;>exact h) (by kernel_rfl) (⟨n2,by omega,S13.out.drew⟩) ?_;simp only [picked,List.map_cons,List.map_nil,List.getD_cons_succ,List.getD_cons_zero]
   iterate 5
    (refine wpHeld_take (v:=?_) (Or.inl ⟨by rfl,?_⟩) ?_
     rotate_left
     · (intro w' hSw;obtain ⟨n',hn',hSw⟩:=hSw;obtain ⟨v0,z0⟩:=HV0.out _ _ hSw;go_simp;try with_reducible rfl)
     try simp only [Act.put,List.setIfInBounds_toArray,List.set])
   refine wpHeld_run (fun K hK=>?_);go_simp;go_at_call 9
   (with_reducible refine HN1.out.mono ?_)
   rintro e w14 ⟨rfl,s14⟩;have S14:Hid (SW w.heap.size w (bufOb ⟨some ⟨g4,0,none⟩,bs.length,d4c⟩ bs::rowOb 40 1 (.slice (some ⟨gL,0,none⟩) 4 4) 4 (TB.flatMap encBs)::bsOb TB::tpOb gT A cap L (n2+1)::rsOb dA bs::cellOb g5 36 #[.int .u64 j1,.int .i64 j2]::l) w14):=s14;clear s14 HN1 S13;go_wp2_with fail
   refine hK.out _ _ ⟨n2+1,by omega,S14.out⟩ ?_;clear hK K;try simp only [Act.put,List.setIfInBounds_toArray,List.set]
   (refine wpHeld_take (v:=?_) (Or.inl ⟨by rfl,?_⟩) ?_
    rotate_left
    · (intro w' hSw;obtain ⟨n',hn',hSw⟩:=hSw;obtain ⟨v0,z0⟩:=HV0.out _ _ hSw;go_simp;try with_reducible rfl)
    try simp only [Act.put,List.setIfInBounds_toArray,List.set])
   (refine wpHeld_take (v:=?_) (Or.inl ⟨by rfl,?_⟩) ?_
    rotate_left
    · (intro w' hSw;obtain ⟨n',hn',hSw⟩:=hSw;obtain ⟨v0,z0⟩:=HV0.out _ _ hSw;go_simp;try with_reducible rfl)
    try simp only [Act.put,List.setIfInBounds_toArray,List.set])
   have HN2:=hid (Next_x S14.out 3 rfl 8 (by omega) (by omega));refine wpHeld_run (fun K hK=>?_);go_simp;go_at_call 9
   (with_reducible refine HN2.out.mono ?_)
   rintro e w15 ⟨rfl,s15⟩;have S15:Hid (SW w.heap.size w (bufOb ⟨some ⟨g4,0,none⟩,bs.length,d4c⟩ bs::rowOb 40 1 (.slice (some ⟨gL,0,none⟩) 4 4) 4 (TB.flatMap encBs)::bsOb TB::tpOb gT A cap L (n2+1+1)::rsOb dA bs::cellOb g5 36 #[.int .u64 j1,.int .i64 j2]::l) w15):=s15;obtain ⟨hv0,hv1⟩:=tnext_in L (n2+1) 8;have hv1:=hv1 (by omega);clear s15 HN2 S14;generalize tnext L (n2+1) 8=v at hv0 hv1 |-; go_wp2_with fail
   refine hK.out _ _ ⟨n2+1+1,by omega,S15.out⟩ ?_;clear hK K;try simp only [Act.put,List.setIfInBounds_toArray,List.set]
   obtain ⟨c,z,hz,hc⟩:=shl_u8 v hv0 hv1;obtain ⟨x,hx,_⟩:=xor_byte y0 c;rw [hz] at hx;clear hz;obtain ⟨v0,z0⟩:=HV0.out _ _ S15.out;have S16:=hid (S15.out.setByte 0 rfl (g:=g4) (p:=k) rfl x);rcases hc with ⟨rfl,rfl⟩ | ⟨rfl,rfl⟩ | ⟨rfl,rfl⟩ | ⟨rfl,rfl⟩ | ⟨rfl,rfl⟩ | ⟨rfl,rfl⟩ | ⟨rfl,rfl⟩ | ⟨rfl,rfl⟩
   all_goals (
    (refine wpHeld_take (v:=?_) (Or.inl ⟨by rfl,?_⟩) ?_
     rotate_left
     · (intro w' hSw;go_simp;try with_reducible rfl)
     try simp only [Act.put,List.setIfInBounds_toArray,List.set])
    refine wpHeld_nil ?_;simp only [List.length_cons,List.length_nil,List.drop_succ_cons,List.drop_zero];go_wp2_with fail
    go_meet;exact ⟨n2+1+1,bs.set k x,by omega,by rw [Hid,List.length_set],S16.out⟩)
  obtain ⟨n3,cs,hn3,HCS,hs⟩:=hcut;have S16:=hid hs;clear hs S13;have HN3:=hid (Next_x S16.out 3 rfl (bs.length:Int) (by omega) (by omega))
  obtain ⟨k,hk,hkl⟩:∃ k:Nat,Hid (tnext L n3 (bs.length:Int)=(k:Int))/\k<bs.length:=by
   have h1:=tnext_in L n3 (bs.length:Int);have h2:=tnext_lt L n3 (k:=(bs.length:Int)) (by omega);exact ⟨(tnext L n3 (bs.length:Int)).toNat,by rw [Hid];omega,by omega⟩
  rw [hk.out] at HN3;clear hk;go_wp2_with (go_at_call 9;(with_reducible refine HN3.out.mono ?_);refine halt_ ?_)
  rintro e w17 ⟨rfl,s17⟩;have S17:Hid (SW w.heap.size w (bufOb ⟨none,0,0⟩ []::bufOb ⟨some ⟨g4,0,none⟩,bs.length,d4c⟩ cs::rowOb 40 1 (.slice (some ⟨gL,0,none⟩) 4 4) 4 (TB.flatMap encBs)::bsOb TB::tpOb gT A cap L (n3+1)::rsOb dA bs::cellOb g5 36 #[.int .u64 j1,.int .i64 j2]::l) w17):=SW.noBuf s17;have hkd:k<=dk:=by have:=HBV.out.2;omega
  clear s17 HN3 S16;go_wp2_with (at_builtin;refine halt_q ?_)
  refine wpList_bufS S17.out rfl _ _ rfl rfl dA k dk (bs.take k) rfl (by rw [List.length_take];omega) (SB.take (RS.sb (S17.out.get 5 (o:=rsOb dA bs) rfl)) k) (by simp only [List.length_nil];omega) ?_;rintro ⟨d6A,d6l,d6c⟩ w18 s18;rw [List.nil_append] at s18;have hrb6:RB w18 ⟨d6A,d6l,d6c⟩ (bs.take k):=s18.get 0 (o:=bufOb ⟨d6A,d6l,d6c⟩ (bs.take k)) rfl;have HD6:Hid (d6l=(bs.take k).length/\d6l<=d6c/\(d6A=none->d6c=0)):=⟨hrb6.1.symm,hrb6.2.1,hrb6.2.2.1⟩;have S18:=hid (s18.newCell 40 #[.slice (some ⟨g4,0,none⟩) bs.length d4c,.slice d6A d6l d6c]);clear s18 S17 hrb6;obtain ⟨ii,gi,gz0,gz1,gz2⟩:=info_parts info40;simp only [vB];go_wp2_with (at_builtin;(refine wpList_rowM (t:=56) (e:=40) (size:=1) (bytes:=24) (i:=ii) S18.out 3 rfl (by rfl) (.tmp 86) (.tmp 95) (by rfl) Tryz.underlying56 gi gz0 gz1 gz2 rfl (by omega) (by rfl) ⟨w18.heap.size,0,none⟩ 2 2 [.slice (some ⟨g4,0,none⟩) bs.length d4c,.slice d6A d6l d6c] (by rfl) rfl (two_new _ _ _ _ _ (by simp)) (by intro u hu;simp at hu;rcases hu with rfl | rfl<;>rfl) (by omega) (by unfold maxLen;omega) (by omega) ?_);refine halt_ ?_)
  intro v19 w19 s19;obtain ⟨g9,c9,rfl⟩:=own_some (s19.get 3 rfl) (by omega);obtain ⟨TC,HTC⟩:=fold_of (TB++[(id0,⟨⟨some ⟨g4,0,none⟩,bs.length,d4c⟩,cs⟩),(id0,⟨⟨d6A,d6l,d6c⟩,bs.take k⟩)]:List CH);have HTL:Hid (TC.length=6):=by rw [Hid, <- HTC.out,List.length_append,HTLB.out];rfl
  have HOK2:Hid (∀ e∈TC,OkL e):=fun e he=>by
   rw [<- HTC.out] at he;simp only [List.mem_append,List.mem_cons,List.not_mem_nil,or_false] at he;rcases he with he | rfl | rfl
   · exact HOK.out e he
   · exact ⟨HCS.out.symm,by have:=HCS.out;have:=HD4.out;simp only;omega,(fun e=>by cases e),by have:=HCS.out;simp only;omega⟩
   refine ⟨HD6.out.1,by have:=HD6.out;simp only;omega,HD6.out.2.2,?_⟩;simp only [List.length_take];omega
  have S20:Hid (SW w.heap.size w (rowOb 40 1 (.slice (some ⟨g9,0,none⟩) TC.length c9) TC.length (TC.flatMap encBs)::bsOb TC::cellOb g5 36 #[.int .u64 j1,.int .i64 j2]::l) w19):=by
   have h1:SW w.heap.size w (bufOb ⟨d6A,d6l,d6c⟩ (bs.take k)::bufOb ⟨some ⟨g4,0,none⟩,bs.length,d4c⟩ cs::bsOb TB::rowOb 40 1 (.slice (some ⟨g9,0,none⟩) 6 c9) 6 (TB.flatMap encBs++[.slice (some ⟨g4,0,none⟩) bs.length d4c,.slice d6A d6l d6c])::cellOb g5 36 #[.int .u64 j1,.int .i64 j2]::l) w19:=SW.few (pre:=[_,_,_,_,_,_,_,_]) s19 [1,2,4,3,7] (n:=8) rfl (by decide) (by decide);have h2:=SW.bsCons (SW.front (pre:=[_,_]) (SW.bufX (SW.front (pre:=[_,_]) h1 [1,0] (n:=2) rfl (by decide))) [0,1] (n:=2) rfl (by decide) |> fun h=>SW.front (pre:=[_,_,_]) h [0,2,1] (n:=3) rfl (by decide)) id0 ⟨HCS.out.symm,HD4.out⟩;have h3:=SW.bsCons (SW.bufX (SW.front (pre:=[_,_]) h2 [1,0] (n:=2) rfl (by decide))) id0 ⟨HD6.out.1,HD6.out.2.1⟩
   have h4:SW w.heap.size w (bsOb TC::rowOb 40 1 (.slice (some ⟨g9,0,none⟩) 6 c9) 6 (TB.flatMap encBs++[.slice (some ⟨g4,0,none⟩) bs.length d4c,.slice d6A d6l d6c])::cellOb g5 36 #[.int .u64 j1,.int .i64 j2]::l) w19:=SW.bsSub h3 (fun e he=>by
    rw [<- HTC.out] at he;simp only [List.mem_append,List.mem_cons,List.not_mem_nil,or_false] at he |-; rcases he with h | h | h<;>simp [h])
   have h5:=SW.front (pre:=[_,_]) h4 [1,0] (n:=2) rfl (by decide);have e:TC.flatMap encBs=TB.flatMap encBs++[.slice (some ⟨g4,0,none⟩) bs.length d4c,.slice d6A d6l d6c]:=by rw [<- HTC.out,List.flatMap_append];rfl
   rw [Hid,HTL.out,e];exact h5
  clear s19 S18;have HCL:Hid (TC.length<=10):=by rw [Hid,HTL.out];decide
  go_wp2_with fail
  go_meet;exact ⟨TC,some ⟨g9,0,none⟩,c9,by rw [HTL.out],HCL.out,HOK2.out,S20.out⟩
 obtain ⟨TC,D,dc,rfl,hcl,HOK2,hs⟩:=hcut;have S20:=hid hs;clear hs S11 HOK HTLB;go_wp2_with fail
 go_loopw [14] (fun s14 wr=>∃ k:Nat,k<=TC.length/\s14= .int .i64 (k:Int)/\SW w.heap.size w (rowOb 40 1 (.slice D TC.length dc) TC.length (TC.flatMap encBs)::bsOb TC::cellOb g5 36 #[.int .u64 j1,.int .i64 j2]::l) wr) (fun s14 _=>TC.length-(intOf s14).toNat)
 case atStart=>exact ⟨0,Nat.zero_le _,rfl,S20.out⟩
 obtain ⟨k,hk,rfl,hs⟩:=hrel;have S21:=hid hs;clear hs S20;by_cases hlt:k<TC.length
 · obtain ⟨⟨q,⟨⟨eA,el,ec⟩,es⟩⟩,HE⟩:∃ x,Hid (TC.getD k ch0=x):=⟨_,rfl⟩;have hmem:(q,(⟨⟨eA,el,ec⟩,es⟩:BS))∈TC:=by rw [<- HE.out];exact getD_mem _ _ _ hlt
   have hok:=HOK2.out _ hmem;obtain rfl:el=es.length:=hok.1;have HOKE:=hid hok;obtain ⟨gL2,cL2,e7⟩:=own_some (S21.out.get 0 rfl) (by omega);injection e7 with e7 e8 e9;clear e8 e9;subst e7
   have HRC:Hid (∀ W,(rowOb 40 1 (.slice (some ⟨gL2,0,none⟩) TC.length dc) TC.length (TC.flatMap encBs)).holds W->gL2<W.heap.size/\W.cell? ⟨gL2,k,none⟩=some (.slice eA es.length ec)):=fun W hW=>by
    have hrow:W.ownsRow 0 40 1 (.slice (some ⟨gL2,0,none⟩) TC.length dc) TC.length (TC.flatMap encBs):=hW;refine ⟨(hrow.lt gL2 rfl).2,?_⟩;have h1:=hrow.cellAt k (by omega);have h2:=flat_at encBs_len ch0 TC k 0 hlt (by omega);rw [HE.out] at h2;rw [Nat.mul_one,Nat.add_zero] at h2;rw [h1,h2];rfl
   have S22:Hid (SW w.heap.size w (rsOb eA es::rowOb 40 1 (.slice (some ⟨gL2,0,none⟩) TC.length dc) TC.length (TC.flatMap encBs)::bsOb TC::cellOb g5 36 #[.int .u64 j1,.int .i64 j2]::l) wr):=SW.bsRs S21.out (.tail _ (.head _)) hmem;have HC1:=hid (Contents_u S22.out (.head _) ⟨HOKE.out.2.2.1,HOKE.out.2.1⟩ HOKE.out.2.2.2);obtain ⟨hgl,q0⟩:=HRC.out _ (S22.out.get 1 rfl);have hel:es.length<=1048575:=HOKE.out.2.2.2;clear hmem hok S21;simp only at HC1;go_wp2_with (go_at_call 20;(with_reducible refine HC1.out.mono ?_);refine halt_ ?_)
   rintro e w23 ⟨X,XA,xc,f1,hcv,rfl,t23⟩;have HCV:=hid hcv;have S23:=hid t23;have HC2:=hid (rContents_u S23.out (.tail _ (.head _)) ⟨HOKE.out.2.2.1,HOKE.out.2.1⟩ HOKE.out.2.2.2);clear hcv t23 HC1 S22 q0 hgl;obtain ⟨hgl,q0⟩:=HRC.out _ (S23.out.get 2 rfl);simp only at HC2;go_wp2_with (go_at_call 21;(with_reducible refine HC2.out.mono ?_);refine halt_ ?_)
   rintro e w24 ⟨X',YA,yc,f1',hcv',rfl,t24⟩;obtain ⟨rfl,rfl⟩:=cnt_uniq HCV.out hcv';have S24:=hid t24;clear hcv' t24 HC2 S23 q0 hgl HCV;go_upto_region 16 with fail
   have HKS:Hid (∀ (W:World) (l':List Ob),SW w.heap.size w l' W->rowOb 40 1 (.slice (some ⟨gL2,0,none⟩) TC.length dc) TC.length (TC.flatMap encBs)∈l'->cellOb g5 36 #[.int .u64 j1,.int .i64 j2]∈l'->gL2<W.heap.size/\W.cell? ⟨gL2,k,none⟩=some (.slice eA es.length ec)/\g5<W.heap.size/\W.cell? ⟨g5,0,none⟩=some (.int .u64 j1)/\W.cell? ⟨g5,1,none⟩=some (.int .i64 j2)):=fun W l' h h1 h2=>by
    obtain ⟨a1,a2⟩:=HRC.out _ (h.1.holds _ h1);have hI:IsB W g5 36 #[.int .u64 j1,.int .i64 j2]:=h.1.holds _ h2;exact ⟨a1,a2,hI.lt,hI.cell 0,hI.cell 1⟩
   go_cut [19,20,21] from 119 to 129 (fun s19 s20 s21 w'=>∃ (m:Man) (U:List CH) (rA:Option Addr) (r:Nat) (CA:Option Addr) (cu:Nat) (f:Int) (gu:Nat),Hid (RstV es (j1,j2) m (U.map (·.1)) (U.map (·.2.bs)) f)/\Hid (m.ids.length<=9223372036854775807)/\s19=vPtr gu/\s20= .slice CA U.length cu/\s21= .int .i64 f/\SW w.heap.size w (cellOb gu 33 #[.int .i64 m.size,.slice rA m.ids.length r]::cxOb CA U::rgOb rA m.ids::rowOb 36 2 (.slice YA X.length yc) X.length (X.flatMap encID)::rowOb 36 2 (.slice XA X.length xc) X.length (X.flatMap encID)::rsOb eA es::rowOb 40 1 (.slice (some ⟨gL2,0,none⟩) TC.length dc) TC.length (TC.flatMap encBs)::bsOb TC::cellOb g5 36 #[.int .u64 j1,.int .i64 j2]::l) w')
   case first=>
    have S0d:=S24.out.drew;refine wp_region_tree 13 (.take 0 (.take 1 (.take 2 (.take 3 (.take 4 (.two 5 (.take 6 (.take 7 (.take 8 (.take 9 (.one 10 (.one 11 (.take 12 .nil))))))) 10 (.one 5 (.take 6 (.take 7 (.take 8 (.take 9 (.one 11 (.take 12 .nil))))))))))))) (fun w'=>gL2<w'.heap.size/\w'.cell? ⟨gL2,k,none⟩=some (.slice eA es.length ec)/\g5<w'.heap.size/\w'.cell? ⟨g5,0,none⟩=some (.int .u64 j1)/\w'.cell? ⟨g5,1,none⟩=some (.int .i64 j2)) (by kernel_rfl) (fun _ _ d _ _ h=>by cases d<;>exact h) (by kernel_rfl) (HKS.out _ _ S0d (.tail _ (.tail _ (.tail _ (.head _)))) (.tail _ (.tail _ (.tail _ (.tail _ (.tail _ (.head _))))))) ?_;generalize World.drew _=wd at S0d |-
    iterate 5
     refine wpTr_takeL rfl ?_ (Or.inl ⟨by rfl,?_⟩) ?_;rotate_left
     · (intro w' hSw;obtain ⟨h1,h2,h3,h4,h5⟩:=hSw;go_simp;try with_reducible rfl)
     try simp only [Act.put,List.setIfInBounds_toArray,List.set]
    refine wpTr_two ?_ ?_
    · refine wpTr_runL rfl (fun K' hK'=>?_);go_simp;go_at_call 22
      refine (Restore_u S0d (.tail _ (.tail _ (.head _))) ⟨HOKE.out.2.2.1,HOKE.out.2.1⟩ HOKE.out.2.2.2 j1 j2).mono ?_;rintro e wc ⟨m,U,rA,r,CA,cu,f,hv,hml,rfl,tcc⟩;have HRV1:=hid hv;have HML:=hid hml;clear hv hml;have TCC:Hid (SW w.heap.size w (cxOb CA U::rgOb rA m.ids::rowOb 36 2 (.slice YA X.length yc) X.length (X.flatMap encID)::rowOb 36 2 (.slice XA X.length xc) X.length (X.flatMap encID)::rsOb eA es::rowOb 40 1 (.slice (some ⟨gL2,0,none⟩) TC.length dc) TC.length (TC.flatMap encBs)::bsOb TC::cellOb g5 36 #[.int .u64 j1,.int .i64 j2]::l) wc):=tcc;clear tcc;go_wp2_with fail
      refine hK'.out _ _ (HKS.out _ _ TCC.out (.tail _ (.tail _ (.tail _ (.tail _ (.tail _ (.head _)))))) (.tail _ (.tail _ (.tail _ (.tail _ (.tail _ (.tail _ (.tail _ (.head _))))))))) ?_;clear hK' K';try simp only [Act.put,List.setIfInBounds_toArray,List.set]
      iterate 4
       refine wpTr_takeL rfl ?_ (Or.inl ⟨by rfl,?_⟩) ?_;rotate_left
       · (intro w' hSw;obtain ⟨h1,h2,h3,h4,h5⟩:=hSw;go_simp;try with_reducible rfl)
       try simp only [Act.put,List.setIfInBounds_toArray,List.set]
      refine wpTr_one ?_;refine wpTr_runL rfl (fun K' hK'=>?_);have SAA:SW w.heap.size w (cellOb _ 33 #[.int .i64 0,.slice none 0 0]::cxOb CA U::rgOb rA m.ids::rowOb 36 2 (.slice YA X.length yc) X.length (X.flatMap encID)::rowOb 36 2 (.slice XA X.length xc) X.length (X.flatMap encID)::rsOb eA es::rowOb 40 1 (.slice (some ⟨gL2,0,none⟩) TC.length dc) TC.length (TC.flatMap encBs)::bsOb TC::cellOb g5 36 #[.int .u64 j1,.int .i64 j2]::l) _:=SW.newCell TCC.out 33 #[.int .i64 0,.slice none 0 0];go_simp;refine hK'.out _ _ (HKS.out _ _ SAA (.tail _ (.tail _ (.tail _ (.tail _ (.tail _ (.tail _ (.head _))))))) (.tail _ (.tail _ (.tail _ (.tail _ (.tail _ (.tail _ (.tail _ (.tail _ (.head _)))))))))) ?_;clear hK' K';obtain ⟨gn,wn,eG,eW,SBB⟩:∃ gn wn,Hid (_=gn)/\Hid (_=wn)/\SW w.heap.size w (cellOb gn 33 #[.int .i64 0,.slice none 0 0]::cxOb CA U::rgOb rA m.ids::rowOb 36 2 (.slice YA X.length yc) X.length (X.flatMap encID)::rowOb 36 2 (.slice XA X.length xc) X.length (X.flatMap encID)::rsOb eA es::rowOb 40 1 (.slice (some ⟨gL2,0,none⟩) TC.length dc) TC.length (TC.flatMap encBs)::bsOb TC::cellOb g5 36 #[.int .u64 j1,.int .i64 j2]::l) wn:=⟨_,_,rfl,rfl,SAA⟩;rw [eG.out,eW.out];clear eG eW SAA;try simp only [Act.put,List.setIfInBounds_toArray,List.set]
      refine wpTr_one ?_;refine wpTr_runL rfl (fun K' hK'=>?_);have Z0:=hid SBB;have z0:=(Z0.out.cell 0 rfl).cell 0;have f0:=(Z0.out.cell 0 rfl).frozen 0;have z1:=(Z0.out.cell 0 rfl).cell 1;have f1:=(Z0.out.cell 0 rfl).frozen 1;have Z2:=hid ((Z0.out.setAt 0 rfl 0 (.int .i64 m.size)).setAt 0 rfl 1 (.slice rA m.ids.length r));have Z3:Hid (SW w.heap.size w (cellOb gn 33 #[.int .i64 m.size,.slice rA m.ids.length r]::cxOb CA U::rgOb rA m.ids::rowOb 36 2 (.slice YA X.length yc) X.length (X.flatMap encID)::rowOb 36 2 (.slice XA X.length xc) X.length (X.flatMap encID)::rsOb eA es::rowOb 40 1 (.slice (some ⟨gL2,0,none⟩) TC.length dc) TC.length (TC.flatMap encBs)::bsOb TC::cellOb g5 36 #[.int .u64 j1,.int .i64 j2]::l) _):=SW.front (pre:=[_,_,_]) Z2.out [0,1,2] (n:=3) rfl (by decide);clear Z0 Z2;go_wp2_with fail
      refine hK'.out _ _ (HKS.out _ _ Z3.out (.tail _ (.tail _ (.tail _ (.tail _ (.tail _ (.tail _ (.head _))))))) (.tail _ (.tail _ (.tail _ (.tail _ (.tail _ (.tail _ (.tail _ (.tail _ (.head _)))))))))) ?_;clear hK' K';try simp only [Act.put,List.setIfInBounds_toArray,List.set]
      refine wpTr_takeL rfl ?_ (Or.inl ⟨by rfl,?_⟩) ?_;rotate_left
      · (intro w' hSw;obtain ⟨h1,h2,h3,h4,h5⟩:=hSw;go_simp;try with_reducible rfl)
      try simp only [Act.put,List.setIfInBounds_toArray,List.set]
      refine wpTr_nil ?_;simp only [List.drop_succ_cons,List.drop_zero];clear z0 z1 f0 f1;go_wp2_with fail
      go_meet;exact ⟨m,U,rA,r,CA,cu,f,gn,HRV1.out,HML.out,rfl,rfl,rfl,Z3.out⟩
    refine wpTr_runL rfl (fun K' hK'=>?_);have SAA:SW w.heap.size w (cellOb _ 33 #[.int .i64 0,.slice none 0 0]::rowOb 36 2 (.slice YA X.length yc) X.length (X.flatMap encID)::rowOb 36 2 (.slice XA X.length xc) X.length (X.flatMap encID)::rsOb eA es::rowOb 40 1 (.slice (some ⟨gL2,0,none⟩) TC.length dc) TC.length (TC.flatMap encBs)::bsOb TC::cellOb g5 36 #[.int .u64 j1,.int .i64 j2]::l) _:=SW.newCell S0d 33 #[.int .i64 0,.slice none 0 0];go_simp;refine hK'.out _ _ (HKS.out _ _ SAA (.tail _ (.tail _ (.tail _ (.tail _ (.head _))))) (.tail _ (.tail _ (.tail _ (.tail _ (.tail _ (.tail _ (.head _)))))))) ?_;clear hK' K';obtain ⟨gn,wn,eG,eW,SBB⟩:∃ gn wn,Hid (_=gn)/\Hid (_=wn)/\SW w.heap.size w (cellOb gn 33 #[.int .i64 0,.slice none 0 0]::rowOb 36 2 (.slice YA X.length yc) X.length (X.flatMap encID)::rowOb 36 2 (.slice XA X.length xc) X.length (X.flatMap encID)::rsOb eA es::rowOb 40 1 (.slice (some ⟨gL2,0,none⟩) TC.length dc) TC.length (TC.flatMap encBs)::bsOb TC::cellOb g5 36 #[.int .u64 j1,.int .i64 j2]::l) wn:=⟨_,_,rfl,rfl,SAA⟩;rw [eG.out,eW.out];clear eG eW SAA;try simp only [Act.put,List.setIfInBounds_toArray,List.set]
    refine wpTr_one ?_;refine wpTr_runL rfl (fun K' hK'=>?_);go_simp;go_at_call 22
    refine (Restore_u SBB (.tail _ (.tail _ (.tail _ (.head _)))) ⟨HOKE.out.2.2.1,HOKE.out.2.1⟩ HOKE.out.2.2.2 j1 j2).mono ?_;rintro e wc ⟨m,U,rA,r,CA,cu,f,hv,hml,rfl,tcc⟩;have HRV1:=hid hv;have HML:=hid hml;clear hv hml;have TCC:Hid (SW w.heap.size w (cxOb CA U::rgOb rA m.ids::cellOb gn 33 #[.int .i64 0,.slice none 0 0]::rowOb 36 2 (.slice YA X.length yc) X.length (X.flatMap encID)::rowOb 36 2 (.slice XA X.length xc) X.length (X.flatMap encID)::rsOb eA es::rowOb 40 1 (.slice (some ⟨gL2,0,none⟩) TC.length dc) TC.length (TC.flatMap encBs)::bsOb TC::cellOb g5 36 #[.int .u64 j1,.int .i64 j2]::l) wc):=tcc;clear tcc;go_wp2_with fail
    refine hK'.out _ _ (HKS.out _ _ TCC.out (.tail _ (.tail _ (.tail _ (.tail _ (.tail _ (.tail _ (.head _))))))) (.tail _ (.tail _ (.tail _ (.tail _ (.tail _ (.tail _ (.tail _ (.tail _ (.head _)))))))))) ?_;clear hK' K';try simp only [Act.put,List.setIfInBounds_toArray,List.set]
    iterate 4
     refine wpTr_takeL rfl ?_ (Or.inl ⟨by rfl,?_⟩) ?_;rotate_left
     · (intro w' hSw;obtain ⟨h1,h2,h3,h4,h5⟩:=hSw;go_simp;try with_reducible rfl)
     try simp only [Act.put,List.setIfInBounds_toArray,List.set]
    refine wpTr_one ?_;refine wpTr_runL rfl (fun K' hK'=>?_);have Z0:=hid TCC.out;have z0:=(Z0.out.cell 2 rfl).cell 0;have f0:=(Z0.out.cell 2 rfl).frozen 0;have z1:=(Z0.out.cell 2 rfl).cell 1;have f1:=(Z0.out.cell 2 rfl).frozen 1;have Z2:=hid ((Z0.out.setAt 2 rfl 0 (.int .i64 m.size)).setAt 2 rfl 1 (.slice rA m.ids.length r));have Z3:Hid (SW w.heap.size w (cellOb gn 33 #[.int .i64 m.size,.slice rA m.ids.length r]::cxOb CA U::rgOb rA m.ids::rowOb 36 2 (.slice YA X.length yc) X.length (X.flatMap encID)::rowOb 36 2 (.slice XA X.length xc) X.length (X.flatMap encID)::rsOb eA es::rowOb 40 1 (.slice (some ⟨gL2,0,none⟩) TC.length dc) TC.length (TC.flatMap encBs)::bsOb TC::cellOb g5 36 #[.int .u64 j1,.int .i64 j2]::l) _):=SW.front (pre:=[_,_,_]) Z2.out [2,0,1] (n:=3) rfl (by decide);clear Z0 Z2;go_wp2_with fail
    refine hK'.out _ _ (HKS.out _ _ Z3.out (.tail _ (.tail _ (.tail _ (.tail _ (.tail _ (.tail _ (.head _))))))) (.tail _ (.tail _ (.tail _ (.tail _ (.tail _ (.tail _ (.tail _ (.tail _ (.head _)))))))))) ?_;clear hK' K';try simp only [Act.put,List.setIfInBounds_toArray,List.set]
    refine wpTr_takeL rfl ?_ (Or.inl ⟨by rfl,?_⟩) ?_;rotate_left
    · (intro w' hSw;obtain ⟨h1,h2,h3,h4,h5⟩:=hSw;go_simp;try with_reducible rfl)
    try simp only [Act.put,List.setIfInBounds_toArray,List.set]
    refine wpTr_nil ?_;simp only [List.drop_succ_cons,List.drop_zero];clear z0 z1 f0 f1;go_wp2_with fail
    go_meet;exact ⟨m,U,rA,r,CA,cu,f,gn,HRV1.out,HML.out,rfl,rfl,rfl,Z3.out⟩
   obtain ⟨m,U,rA,r,CA,cu,f,gu,HRV1,HML,rfl,rfl,rfl,hs⟩:=hcut;have S25:=hid hs;clear hs S24;go_upto_region 17 with fail
   go_cut [22,23,24] from 129 to 139 (fun s22 s23 s24 w'=>∃ (U2:List CH) (rA2:Option Addr) (r2:Nat) (CA2:Option Addr) (cu2:Nat) (gu2:Nat),Hid (U.map (·.1)=U2.map (·.1)/\U.map (·.2.bs)=U2.map (·.2.bs))/\s22=vPtr gu2/\s23= .slice CA2 U2.length cu2/\s24= .int .i64 f/\SW w.heap.size w (cellOb gu2 33 #[.int .i64 m.size,.slice rA2 m.ids.length r2]::cxOb CA2 U2::rgOb rA2 m.ids::cellOb gu 33 #[.int .i64 m.size,.slice rA m.ids.length r]::cxOb CA U::rgOb rA m.ids::rowOb 36 2 (.slice YA X.length yc) X.length (X.flatMap encID)::rowOb 36 2 (.slice XA X.length xc) X.length (X.flatMap encID)::rsOb eA es::rowOb 40 1 (.slice (some ⟨gL2,0,none⟩) TC.length dc) TC.length (TC.flatMap encBs)::bsOb TC::cellOb g5 36 #[.int .u64 j1,.int .i64 j2]::l) w')
   case first=>
    have S0d:=S25.out.drew;refine wp_region_tree 13 (.take 0 (.take 1 (.take 2 (.take 3 (.take 4 (.two 5 (.take 6 (.take 7 (.take 8 (.take 9 (.one 10 (.one 11 (.take 12 .nil))))))) 10 (.one 5 (.take 6 (.take 7 (.take 8 (.take 9 (.one 11 (.take 12 .nil))))))))))))) (fun w'=>gL2<w'.heap.size/\w'.cell? ⟨gL2,k,none⟩=some (.slice eA es.length ec)/\g5<w'.heap.size/\w'.cell? ⟨g5,0,none⟩=some (.int .u64 j1)/\w'.cell? ⟨g5,1,none⟩=some (.int .i64 j2)) (by kernel_rfl) (fun _ _ d _ _ h=>by cases d<;>exact h) (by kernel_rfl) (HKS.out _ _ S0d (.tail _ (.tail _ (.tail _ (.tail _ (.tail _ (.tail _ (.head _))))))) (.tail _ (.tail _ (.tail _ (.tail _ (.tail _ (.tail _ (.tail _ (.tail _ (.head _)))))))))) ?_;generalize World.drew _=wd at S0d |-
    iterate 5
     refine wpTr_takeL rfl ?_ (Or.inl ⟨by rfl,?_⟩) ?_;rotate_left
     · (intro w' hSw;obtain ⟨h1,h2,h3,h4,h5⟩:=hSw;go_simp;try with_reducible rfl)
     try simp only [Act.put,List.setIfInBounds_toArray,List.set]
    refine wpTr_two ?_ ?_
    · refine wpTr_runL rfl (fun K' hK'=>?_);go_simp;go_at_call 23
      refine (rRestore_u S0d (.tail _ (.tail _ (.tail _ (.tail _ (.tail _ (.head _)))))) ⟨HOKE.out.2.2.1,HOKE.out.2.1⟩ HOKE.out.2.2.2 j1 j2).mono ?_;rintro e wc ⟨m2,U2,rA2,r2,CA2,cu2,f2,hv,_,rfl,tcc⟩;obtain ⟨rfl,hF,hB,rfl⟩:=rst_uniq HRV1.out hv;have HUU:Hid (U.map (·.1)=U2.map (·.1)/\U.map (·.2.bs)=U2.map (·.2.bs)):=⟨hF,hB⟩;clear hv hF hB;have TCC:Hid (SW w.heap.size w (cxOb CA2 U2::rgOb rA2 m.ids::cellOb gu 33 #[.int .i64 m.size,.slice rA m.ids.length r]::cxOb CA U::rgOb rA m.ids::rowOb 36 2 (.slice YA X.length yc) X.length (X.flatMap encID)::rowOb 36 2 (.slice XA X.length xc) X.length (X.flatMap encID)::rsOb eA es::rowOb 40 1 (.slice (some ⟨gL2,0,none⟩) TC.length dc) TC.length (TC.flatMap encBs)::bsOb TC::cellOb g5 36 #[.int .u64 j1,.int .i64 j2]::l) wc):=tcc;clear tcc;go_wp2_with fail
      refine hK'.out _ _ (HKS.out _ _ TCC.out (.tail _ (.tail _ (.tail _ (.tail _ (.tail _ (.tail _ (.tail _ (.tail _ (.head _))))))))) (.tail _ (.tail _ (.tail _ (.tail _ (.tail _ (.tail _ (.tail _ (.tail _ (.tail _ (.tail _ (.head _)))))))))))) ?_;clear hK' K';try simp only [Act.put,List.setIfInBounds_toArray,List.set]
      iterate 4
       refine wpTr_takeL rfl ?_ (Or.inl ⟨by rfl,?_⟩) ?_;rotate_left
       · (intro w' hSw;obtain ⟨h1,h2,h3,h4,h5⟩:=hSw;go_simp;try with_reducible rfl)
       try simp only [Act.put,List.setIfInBounds_toArray,List.set]
      refine wpTr_one ?_;refine wpTr_runL rfl (fun K' hK'=>?_);have SAA:SW w.heap.size w (cellOb _ 33 #[.int .i64 0,.slice none 0 0]::cxOb CA2 U2::rgOb rA2 m.ids::cellOb gu 33 #[.int .i64 m.size,.slice rA m.ids.length r]::cxOb CA U::rgOb rA m.ids::rowOb 36 2 (.slice YA X.length yc) X.length (X.flatMap encID)::rowOb 36 2 (.slice XA X.length xc) X.length (X.flatMap encID)::rsOb eA es::rowOb 40 1 (.slice (some ⟨gL2,0,none⟩) TC.length dc) TC.length (TC.flatMap encBs)::bsOb TC::cellOb g5 36 #[.int .u64 j1,.int .i64 j2]::l) _:=SW.newCell TCC.out 33 #[.int .i64 0,.slice none 0 0];go_simp;refine hK'.out _ _ (HKS.out _ _ SAA (.tail _ (.tail _ (.tail _ (.tail _ (.tail _ (.tail _ (.tail _ (.tail _ (.tail _ (.head _)))))))))) (.tail _ (.tail _ (.tail _ (.tail _ (.tail _ (.tail _ (.tail _ (.tail _ (.tail _ (.tail _ (.tail _ (.head _))))))))))))) ?_;clear hK' K';obtain ⟨gn,wn,eG,eW,SBB⟩:∃ gn wn,Hid (_=gn)/\Hid (_=wn)/\SW w.heap.size w (cellOb gn 33 #[.int .i64 0,.slice none 0 0]::cxOb CA2 U2::rgOb rA2 m.ids::cellOb gu 33 #[.int .i64 m.size,.slice rA m.ids.length r]::cxOb CA U::rgOb rA m.ids::rowOb 36 2 (.slice YA X.length yc) X.length (X.flatMap encID)::rowOb 36 2 (.slice XA X.length xc) X.length (X.flatMap encID)::rsOb eA es::rowOb 40 1 (.slice (some ⟨gL2,0,none⟩) TC.length dc) TC.length (TC.flatMap encBs)::bsOb TC::cellOb g5 36 #[.int .u64 j1,.int .i64 j2]::l) wn:=⟨_,_,rfl,rfl,SAA⟩
      rw [eG.out,eW.out];clear eG eW SAA;try simp only [Act.put,List.setIfInBounds_toArray,List.set]
      refine wpTr_one ?_;refine wpTr_runL rfl (fun K' hK'=>?_);have Z0:=hid SBB;have z0:=(Z0.out.cell 0 rfl).cell 0;have f0:=(Z0.out.cell 0 rfl).frozen 0;have z1:=(Z0.out.cell 0 rfl).cell 1;have f1:=(Z0.out.cell 0 rfl).frozen 1;have Z2:=hid ((Z0.out.setAt 0 rfl 0 (.int .i64 m.size)).setAt 0 rfl 1 (.slice rA2 m.ids.length r2));have Z3:Hid (SW w.heap.size w (cellOb gn 33 #[.int .i64 m.size,.slice rA2 m.ids.length r2]::cxOb CA2 U2::rgOb rA2 m.ids::cellOb gu 33 #[.int .i64 m.size,.slice rA m.ids.length r]::cxOb CA U::rgOb rA m.ids::rowOb 36 2 (.slice YA X.length yc) X.length (X.flatMap encID)::rowOb 36 2 (.slice XA X.length xc) X.length (X.flatMap encID)::rsOb eA es::rowOb 40 1 (.slice (some ⟨gL2,0,none⟩) TC.length dc) TC.length (TC.flatMap encBs)::bsOb TC::cellOb g5 36 #[.int .u64 j1,.int .i64 j2]::l) _):=SW.front (pre:=[_,_,_]) Z2.out [0,1,2] (n:=3) rfl (by decide);clear Z0 Z2;go_wp2_with fail
      refine hK'.out _ _ (HKS.out _ _ Z3.out (.tail _ (.tail _ (.tail _ (.tail _ (.tail _ (.tail _ (.tail _ (.tail _ (.tail _ (.head _)))))))))) (.tail _ (.tail _ (.tail _ (.tail _ (.tail _ (.tail _ (.tail _ (.tail _ (.tail _ (.tail _ (.tail _ (.head _))))))))))))) ?_;clear hK' K';try simp only [Act.put,List.setIfInBounds_toArray,List.set]
      refine wpTr_takeL rfl ?_ (Or.inl ⟨by rfl,?_⟩) ?_;rotate_left
      · (intro w' hSw;obtain ⟨h1,h2,h3,h4,h5⟩:=hSw;go_simp;try with_reducible rfl)
      try simp only [Act.put,List.setIfInBounds_toArray,List.set]
      refine wpTr_nil ?_;simp only [List.drop_succ_cons,List.drop_zero];clear z0 z1 f0 f1;go_wp2_with fail
      go_meet;exact ⟨U2,rA2,r2,CA2,cu2,gn,HUU.out,rfl,rfl,rfl,Z3.out⟩
    refine wpTr_runL rfl (fun K' hK'=>?_);have SAA:SW w.heap.size w (cellOb _ 33 #[.int .i64 0,.slice none 0 0]::cellOb gu 33 #[.int .i64 m.size,.slice rA m.ids.length r]::cxOb CA U::rgOb rA m.ids::rowOb 36 2 (.slice YA X.length yc) X.length (X.flatMap encID)::rowOb 36 2 (.slice XA X.length xc) X.length (X.flatMap encID)::rsOb eA es::rowOb 40 1 (.slice (some ⟨gL2,0,none⟩) TC.length dc) TC.length (TC.flatMap encBs)::bsOb TC::cellOb g5 36 #[.int .u64 j1,.int .i64 j2]::l) _:=SW.newCell S0d 33 #[.int .i64 0,.slice none 0 0];go_simp;refine hK'.out _ _ (HKS.out _ _ SAA (.tail _ (.tail _ (.tail _ (.tail _ (.tail _ (.tail _ (.tail _ (.head _)))))))) (.tail _ (.tail _ (.tail _ (.tail _ (.tail _ (.tail _ (.tail _ (.tail _ (.tail _ (.head _))))))))))) ?_;clear hK' K';obtain ⟨gn,wn,eG,eW,SBB⟩:∃ gn wn,Hid (_=gn)/\Hid (_=wn)/\SW w.heap.size w (cellOb gn 33 #[.int .i64 0,.slice none 0 0]::cellOb gu 33 #[.int .i64 m.size,.slice rA m.ids.length r]::cxOb CA U::rgOb rA m.ids::rowOb 36 2 (.slice YA X.length yc) X.length (X.flatMap encID)::rowOb 36 2 (.slice XA X.length xc) X.length (X.flatMap encID)::rsOb eA es::rowOb 40 1 (.slice (some ⟨gL2,0,none⟩) TC.length dc) TC.length (TC.flatMap encBs)::bsOb TC::cellOb g5 36 #[.int .u64 j1,.int .i64 j2]::l) wn:=⟨_,_,rfl,rfl,SAA⟩;rw [eG.out,eW.out];clear eG eW SAA;try simp only [Act.put,List.setIfInBounds_toArray,List.set]
    refine wpTr_one ?_;refine wpTr_runL rfl (fun K' hK'=>?_);go_simp;go_at_call 23
    refine (rRestore_u SBB (.tail _ (.tail _ (.tail _ (.tail _ (.tail _ (.tail _ (.head _))))))) ⟨HOKE.out.2.2.1,HOKE.out.2.1⟩ HOKE.out.2.2.2 j1 j2).mono ?_;rintro e wc ⟨m2,U2,rA2,r2,CA2,cu2,f2,hv,_,rfl,tcc⟩;obtain ⟨rfl,hF,hB,rfl⟩:=rst_uniq HRV1.out hv;have HUU:Hid (U.map (·.1)=U2.map (·.1)/\U.map (·.2.bs)=U2.map (·.2.bs)):=⟨hF,hB⟩;clear hv hF hB;have TCC:Hid (SW w.heap.size w (cxOb CA2 U2::rgOb rA2 m.ids::cellOb gn 33 #[.int .i64 0,.slice none 0 0]::cellOb gu 33 #[.int .i64 m.size,.slice rA m.ids.length r]::cxOb CA U::rgOb rA m.ids::rowOb 36 2 (.slice YA X.length yc) X.length (X.flatMap encID)::rowOb 36 2 (.slice XA X.length xc) X.length (X.flatMap encID)::rsOb eA es::rowOb 40 1 (.slice (some ⟨gL2,0,none⟩) TC.length dc) TC.length (TC.flatMap encBs)::bsOb TC::cellOb g5 36 #[.int .u64 j1,.int .i64 j2]::l) wc):=tcc;clear tcc;go_wp2_with fail
    refine hK'.out _ _ (HKS.out _ _ TCC.out (.tail _ (.tail _ (.tail _ (.tail _ (.tail _ (.tail _ (.tail _ (.tail _ (.tail _ (.head _)))))))))) (.tail _ (.tail _ (.tail _ (.tail _ (.tail _ (.tail _ (.tail _ (.tail _ (.tail _ (.tail _ (.tail _ (.head _))))))))))))) ?_;clear hK' K';try simp only [Act.put,List.setIfInBounds_toArray,List.set]
    iterate 4
     refine wpTr_takeL rfl ?_ (Or.inl ⟨by rfl,?_⟩) ?_;rotate_left
     · (intro w' hSw;obtain ⟨h1,h2,h3,h4,h5⟩:=hSw;go_simp;try with_reducible rfl)
     try simp only [Act.put,List.setIfInBounds_toArray,List.set]
    refine wpTr_one ?_;refine wpTr_runL rfl (fun K' hK'=>?_);have Z0:=hid TCC.out;have z0:=(Z0.out.cell 2 rfl).cell 0;have f0:=(Z0.out.cell 2 rfl).frozen 0;have z1:=(Z0.out.cell 2 rfl).cell 1;have f1:=(Z0.out.cell 2 rfl).frozen 1;have Z2:=hid ((Z0.out.setAt 2 rfl 0 (.int .i64 m.size)).setAt 2 rfl 1 (.slice rA2 m.ids.length r2));have Z3:Hid (SW w.heap.size w (cellOb gn 33 #[.int .i64 m.size,.slice rA2 m.ids.length r2]::cxOb CA2 U2::rgOb rA2 m.ids::cellOb gu 33 #[.int .i64 m.size,.slice rA m.ids.length r]::cxOb CA U::rgOb rA m.ids::rowOb 36 2 (.slice YA X.length yc) X.length (X.flatMap encID)::rowOb 36 2 (.slice XA X.length xc) X.length (X.flatMap encID)::rsOb eA es::rowOb 40 1 (.slice (some ⟨gL2,0,none⟩) TC.length dc) TC.length (TC.flatMap encBs)::bsOb TC::cellOb g5 36 #[.int .u64 j1,.int .i64 j2]::l) _):=SW.front (pre:=[_,_,_]) Z2.out [2,0,1] (n:=3) rfl (by decide);clear Z0 Z2;go_wp2_with fail
    refine hK'.out _ _ (HKS.out _ _ Z3.out (.tail _ (.tail _ (.tail _ (.tail _ (.tail _ (.tail _ (.tail _ (.tail _ (.tail _ (.head _)))))))))) (.tail _ (.tail _ (.tail _ (.tail _ (.tail _ (.tail _ (.tail _ (.tail _ (.tail _ (.tail _ (.tail _ (.head _))))))))))))) ?_;clear hK' K';try simp only [Act.put,List.setIfInBounds_toArray,List.set]
    refine wpTr_takeL rfl ?_ (Or.inl ⟨by rfl,?_⟩) ?_;rotate_left
    · (intro w' hSw;obtain ⟨h1,h2,h3,h4,h5⟩:=hSw;go_simp;try with_reducible rfl)
    try simp only [Act.put,List.setIfInBounds_toArray,List.set]
    refine wpTr_nil ?_;simp only [List.drop_succ_cons,List.drop_zero];clear z0 z1 f0 f1;go_wp2_with fail
    go_meet;exact ⟨U2,rA2,r2,CA2,cu2,gn,HUU.out,rfl,rfl,rfl,Z3.out⟩
   obtain ⟨U2,rA2,r2,CA2,cu2,gu2,HUU,rfl,rfl,rfl,hs⟩:=hcut;have S26:=hid hs;clear hs S25;have c0:=(S26.out.cell 0 rfl).cell 0;have c1:=(S26.out.cell 0 rfl).cell 1;have d0:=(S26.out.cell 3 rfl).cell 0;have d1:=(S26.out.cell 3 rfl).cell 1;have hlc:=(S26.out.cell 0 rfl).lt;have hld:=(S26.out.cell 3 rfl).lt;rename World=>w26;have RX1:=hid (row_rdI (S26.out.get 7 (o:=rowOb 36 2 (.slice XA X.length xc) X.length (X.flatMap encID)) rfl) rfl);have RY1:=hid (row_rdI (S26.out.get 6 (o:=rowOb 36 2 (.slice YA X.length yc) X.length (X.flatMap encID)) rfl) rfl);have RG1:=hid (S26.out.get 5 (o:=rgOb rA m.ids) rfl:RdID w26 w26.heap.size rA m.ids);have RG2:=hid (S26.out.get 2 (o:=rgOb rA2 m.ids) rfl:RdID w26 w26.heap.size rA2 m.ids)
   have hxl:X.length<=9223372036854775807:=by
    have h1:=S26.out.get 7 (o:=rowOb 36 2 (.slice XA X.length xc) X.length (X.flatMap encID)) rfl;exact row_le h1
   have hul:U.length<=9223372036854775807:=by
    have h1:=rst_len HRV1.out;have h2:=HML.out;rw [List.length_map] at h1;omega
   have HSI:=hid (SameIDs_any w26.heap.size w26.heap.size X X XA YA xc yc w26 RX1.out RY1.out hxl hxl);rw [decide_eq_true (rfl:X=X)] at HSI;go_wp2_with (go_at_call 18;(with_reducible refine HSI.out.mono ?_);refine halt_ ?_)
   rintro e w27 ⟨rfl,hb27⟩;have S27:=hid (S26.out.on hb27);have HSM:=hid (rSame_any w26.heap.size w26.heap.size m m rA rA2 r r2 w27 (RG1.out.on hb27) (RG2.out.on hb27) HML.out HML.out);rw [decide_eq_true (⟨rfl,rfl⟩:m.size=m.size/\m.ids=m.ids)] at HSM;clear c0 c1 d0 d1 hlc hld hb27 HSI S26 RX1 RY1 RG1 RG2;have c0:=(S27.out.cell 0 rfl).cell 0;have c1:=(S27.out.cell 0 rfl).cell 1;have d0:=(S27.out.cell 3 rfl).cell 0;have d1:=(S27.out.cell 3 rfl).cell 1;go_wp2_with (go_at_call 24;(with_reducible refine HSM.out.mono ?_);refine halt_ ?_)
   rintro e w28 ⟨rfl,hb28⟩;have S28:=hid (S27.out.on hb28);have HSC:=hid (rSameC_any S28.out (.tail _ (.tail _ (.tail _ (.tail _ (.head _))))) (.tail _ (.head _)) HUU.out.1 HUU.out.2 hul cu cu2);clear c0 c1 d0 d1 hb28 HSM S27;go_wp2_with (go_at_call 25;(with_reducible refine HSC.out.mono ?_);refine halt_ ?_)
   rintro e w29 ⟨rfl,s29⟩;have S29:=hid (SW.few (pre:=[_,_,_,_,_,_,_,_,_,_,_,_]) s29 [9,10,11] (n:=12) rfl (by decide) (by decide));clear s29 HSC S28;go_wp2_with fail
   go_roundw
   case rel=>exact ⟨k+1,by omega,by go_num,S29.out⟩
   simp [intOf];omega
 obtain rfl:k=TC.length:=by omega
 have HKN:=hid (known_any wr);go_wp2_with (go_at_call 13;(with_reducible refine HKN.out.mono ?_);refine halt_ ?_)
 rintro e w30 ⟨rfl,hb30⟩;have S30:=hid (S21.out.on hb30);clear hb30 S21 HKN;go_wp2_with fail
 go_ret;exact ⟨rfl,S30.out.2⟩
end Go.Proofs.YtmiknfneeipkeaaGreat
