/- Q -/
import Derived.Test.YteabgcollokgjaaGreatDoorQ30
set_option linter.unusedSimpArgs false
set_option linter.unusedVariables false
set_option maxRecDepth 100000
set_option maxHeartbeats 32000000
open Go.Lib (hid)
open List renaming mem_cons_of_mem → zA,getD_eq_getElem?_getD → zB,length_take → zC,map_cons → zD,length_cons → zE,filter_cons → zF,getElem?_eq_getElem → zG,length_singleton → zH,getElem?_take_of_lt → zI,length_drop → zJ
namespace Go.Proofs.YteabgcollokgjaaGreatDoor
section
open Go.RowKit Go.MapKept Go.ChangeMaps Go.Shelf Go.Sort
attribute [local go_sem] wext_cell
def stepE (c:CutP) (s:Nat×Nat×List Nat) (y:UInt8):Nat×Nat×List Nat:=if c.ends (s.2.1+1) y.toNat then (s.1+1,0,s.2.2++[s.1+1]) else (s.1+1,s.2.1+1,s.2.2)
def endsF (c:CutP) (bs:List UInt8):Nat×Nat×List Nat:=bs.foldl (stepE c) (0,0,[])
def cutEnds (c:CutP) (bs:List UInt8):List Nat:=if 0<(endsF c bs).2.1 then (endsF c bs).2.2++[bs.length] else (endsF c bs).2.2
theorem endsF_snoc (c:CutP) (bs:List UInt8) (y:UInt8):endsF c (bs++[y])=stepE c (endsF c bs) y:=by
 unfold endsF;rw [List.foldl_append];rfl
theorem stepE_pos (c:CutP) (s:Nat×Nat×List Nat) (y:UInt8):(stepE c s y).1=s.1+1/\(stepE c s y).2.1<=s.2.1+1/\(stepE c s y).2.2.length<=s.2.2.length+1:=by
 unfold stepE;split<;>simp
theorem endsF_pos (c:CutP) (bs:List UInt8):(endsF c bs).1=bs.length/\(endsF c bs).2.1<=bs.length/\(endsF c bs).2.2.length<=bs.length:=by
 have:∀ (bs:List UInt8) (s:Nat×Nat×List Nat),(bs.foldl (stepE c) s).1=s.1+bs.length/\(bs.foldl (stepE c) s).2.1<=s.2.1+bs.length/\(bs.foldl (stepE c) s).2.2.length<=s.2.2.length+bs.length:=by
  intro bs;induction bs with
  | nil=>intro s;simp
  | cons y bs ih=>
   intro s;have h1:=ih (stepE c s y);have h2:=stepE_pos c s y;rw [List.foldl_cons,zE];omega
 have h:=this bs (0,0,[]);simpa [endsF] using h
abbrev vZn (n:Nat):Value:=.int .i64 (n:Int)
theorem own_at {w:World} {e:TypeId} {n:Nat} {v:Value} {xs:List Value} (h:w.ownsRow 0 e 1 v n xs) {k:Nat} (hk:k<xs.length):∃ g c,v= .slice (some ⟨g,0,none⟩) n c/\g<w.heap.size/\w.cell? ⟨g,k,none⟩=xs[k]? :=by
 have hl:=h.1;rcases h.2 with ⟨hv,hx⟩ | ⟨g,cap,cur,hv,_,hh,hc1,hcs,hcs2,htk⟩
 · exfalso
   rw [hx] at hl;omega
 refine ⟨g,cap,hv,(h.lt g (by rw [hv];rfl)).2,?_⟩;have hi:IsB w g e cur:=hh;rw [hi.cell, <- htk,zI (by omega),Array.getElem?_toList]
theorem own_slI {w:World} {e:TypeId} {size n:Nat} {v:Value} {xs:List Value} (h:w.ownsRow 0 e size v n xs):∃ A c,v= .slice A n c:=by
 rcases h.2 with ⟨hv,h2⟩ | ⟨g,cap,cur,hv,_⟩
 · exact ⟨none,0,by rw [hv,h2]⟩
 exact ⟨some ⟨g,0,none⟩,cap,hv⟩
section
variable {b:Nat} {w0 w:World} {l:List Ob}
theorem ends_any (h:SW b w0 l w) (c:CutP) (hc:c.Ok) {A:Option Addr} {bs:List UInt8} (hA:rsOb A bs∈l) (cap:Nat) (hn:bs.length<=100000):
 Calls Tryz.prog 161 #[c.val,.slice A bs.length cap] w (fun e w'=>∃ v,e= .returned (.tuple #[v,.int .i64 0])/\SW b w0 (rowOb 3 1 v (cutEnds c bs).length ((cutEnds c bs).map vZn)::l) w'):=by
 have HMEM:=hid hA;have S0:=hid (h.newCell 85 #[.int .i64 c.mn,.int .i64 c.mx,.int .i64 1,.int .u64 c.ma]);have HSN:=hid (fun (W:World) (hW:SW b w0 l W)=>scan_new hW c hc);obtain ⟨n,Hn⟩:∃ n,Hid (bs.length=n):=⟨_,rfl⟩;rw [Hn.out] at hn |-; clear h hc hA;go_enter Tryz.func161,Tryz.ntmps161;go_upto_region 1 with fail
 generalize w.alloc _=W1 at S0 |-; generalize w.heap.size=g1 at S0 |-; have k0:=(S0.out.cell 0 rfl).cell 0;have k1:=(S0.out.cell 0 rfl).cell 1;have k2:=(S0.out.cell 0 rfl).cell 2;have k3:=(S0.out.cell 0 rfl).cell 3;have S1:=hid S0.out.tail;clear S0;go_wp2_with (go_at_call 213;(with_reducible refine (HSN.out _ S1.out).mono ?_);refine halt_ ?_)
 rintro e w2 ⟨gs,gr,rfl,s2⟩;have S2:=hid s2;clear s2 HSN S1 k0 k1 k2 k3;go_wp2_with fail
 have S3:Hid (SW b w0 (rowOb 3 1 (.slice none 0 0) 0 []::cellOb gs 292 (scC c gr 0)::cellOb gr 361 (rollC 0 0 0)::l) w2):=S2.out.newRow 3 1;clear S2;go_loopw [8,24] (fun s8 s24 wr=>∃ (k:Nat) (x cn s:Int),k<=n/\s24=vZn k/\RollI x cn s/\SW b w0 (rowOb 3 1 s8 (endsF c (bs.take k)).2.2.length ((endsF c (bs.take k)).2.2.map vZn)::cellOb gs 292 (scC c gr ((endsF c (bs.take k)).2.1:Int))::cellOb gr 361 (rollC x cn s)::l) wr) (fun _ s24 _=>n-(intOf s24).toNat)
 case atStart=>exact ⟨0,0,0,0,Nat.zero_le _,rfl,.inl ⟨rfl,rfl,rfl⟩,S3.out⟩
 obtain ⟨k,x,cn,s,hk,rfl,hr,hs⟩:=hrel;have S4:=hid hs;obtain ⟨EA,ec,hv⟩:=own_slI (hs.get 0 rfl);subst hv;have hpos:=endsF_pos c (bs.take k);rw [zC] at hpos;clear hs S3;by_cases hlt:k<n
 · have hltb:k<bs.length:=by rw [Hn.out];exact hlt
   obtain ⟨y,hy⟩:∃ y:UInt8,bs.getD k 0=y:=⟨_,rfl⟩
   have hts:bs.take (k+1)=bs.take k++[y]:=by
    rw [List.take_succ_eq_append_getElem hltb, <- hy,zB,zG hltb];rfl
   have HST:=hid (endsF_snoc c (bs.take k) y);rw [<- hts] at HST;obtain ⟨E,HE⟩:∃ E,Hid (endsF c (bs.take k)=E):=⟨_,rfl⟩;rw [HE.out] at HST S4 hpos;rw [HE.out];have hyl:=y.toNat_lt;have hrs:RS wr A bs:=S4.out.1.holds (rsOb A bs) (by simp [HMEM.out])
   obtain ⟨g,o,rfl,hcell⟩:∃ g o,A=some ⟨g,o,none⟩/\wr.cell? ⟨g,o+k,none⟩=some (.int .u8 ((y.toNat:Nat):Int)):=by
    cases hA:A with
    | none=>have:=hrs.1 hA;omega
    | some ad=>
     obtain ⟨g,o,e,hc⟩:=hrs.2 ad hA;refine ⟨g,o,by rw [e],?_⟩;rw [<- hy];exact hc k hltb
   have S5:Hid (SW b w0 (cellOb gs 292 (scC c gr (E.2.1:Int))::cellOb gr 361 (rollC x cn s)::rowOb 3 1 (.slice EA E.2.2.length ec) E.2.2.length (E.2.2.map vZn)::l) wr):=SW.front (pre:=[_,_,_]) S4.out [1,2,0] (n:=3) rfl (by decide);have HPU:=hid (scan_push hr c E.2.1 (by omega) S5.out y.toNat (by omega));obtain ⟨nl,HNL⟩:∃ nl:Int,Hid ((if c.ends (E.2.1+1) y.toNat then 0 else (E.2.1:Int)+1)=nl):=⟨_,rfl⟩;obtain ⟨d,HD⟩:∃ d:Bool,Hid (c.ends (E.2.1+1) y.toNat=d):=⟨_,rfl⟩;rw [HNL.out,HD.out] at HPU;clear S4 S5 hrs hr;go_wp2_with (go_at_call 214;(with_reducible refine HPU.out.mono ?_);refine halt_ ?_)
   rintro e w3 ⟨rfl,s3⟩;have S6:=hid (SW.front (pre:=[_,_,_]) s3 [2,0,1] (n:=3) rfl (by decide));clear s3 HPU hcell;have hst:=HST.out;unfold stepE at hst;have hE1:E.1=k:=by omega
   have hnl:=HNL.out;rw [HD.out] at hst hnl;cases d with
   | false=>
    rw [if_neg (by decide)] at hst hnl;have HS2:=hid hst;rw [<- hnl] at S6;clear hst HST hnl HNL HD;go_wp2_with fail
    go_roundw
    case rel=>
     refine ⟨k+1,_,_,_,by omega,by go_num,.inr ⟨y.toNat,by omega,rfl,rfl,rfl⟩,?_⟩;rw [HS2.out];exact S6.out
    simp [intOf];omega
   | true=>
    rw [if_pos rfl] at hst hnl;have HS2:=hid hst;rw [<- hnl] at S6;clear hst HST hnl HNL HD;obtain ⟨i1,gi,gz0,gz1,gz2⟩:=info_parts info3;go_wp2_with (at_builtin;(refine wpList_rowS (t:=47) (e:=3) (size:=1) (bytes:=8) (i:=i1) (S6.out.alloc _) 0 rfl (by rfl) (.tmp 32) (.tmp 35) (by rfl) Tryz.underlying47 gi gz0 gz1 gz2 rfl (by omega) (by rfl) ⟨w3.heap.size,0,none⟩ 1 [.int .i64 ((k:Int)+1)] (by rfl) rfl (one_at (cell_new w3 3 _)) (by intro u hu;simp at hu;rw [hu];rfl) (by unfold maxLen;omega) (by omega) ?_);refine halt_ ?_)
    intro v5 w5 s5;obtain ⟨g5,c5,rfl⟩:=own_some (s5.get 0 rfl) (by omega);have S7:=hid s5;clear s5 S6;go_wp2_with fail
    go_roundw
    case rel=>
     refine ⟨k+1,_,_,_,by omega,by go_num,.inr ⟨y.toNat,by omega,rfl,rfl,rfl⟩,?_⟩;rw [HS2.out];simp only [List.map_append,List.length_append,zH,zD,List.map_nil];rw [hE1];exact S7.out
    simp [intOf];omega
 obtain rfl:k=n:=by omega
 have hft:bs.take k=bs:=by rw [List.take_of_length_le (by rw [Hn.out];omega)]
 rw [hft] at S4 hpos |-; obtain ⟨E,HE⟩:∃ E,Hid (endsF c bs=E):=⟨_,rfl⟩;have HCE:Hid (cutEnds c bs=if 0<E.2.1 then E.2.2++[bs.length] else E.2.2):=by rw [Hid, <- HE.out];rfl
 rw [HE.out] at S4 hpos |-; have k5:=(S4.out.cell 1 rfl).cell 5;have hlt5:=(S4.out.cell 1 rfl).lt;by_cases hz:0<E.2.1
 · have hzi:(0:Int)<(E.2.1:Int):=by omega
   have hce:=HCE.out;rw [if_pos hz] at hce;have HC2:=hid hce;clear hce HCE;obtain ⟨i1,gi,gz0,gz1,gz2⟩:=info_parts info3;go_wp2_with (at_builtin;(refine wpList_rowS (t:=47) (e:=3) (size:=1) (bytes:=8) (i:=i1) (S4.out.alloc _) 0 rfl (by rfl) (.tmp 43) (.tmp 46) (by rfl) Tryz.underlying47 gi gz0 gz1 gz2 rfl (by omega) (by rfl) ⟨wr.heap.size,0,none⟩ 1 [.int .i64 (k:Int)] (by rfl) rfl (one_at (cell_new wr 3 _)) (by intro u hu;simp at hu;rw [hu];rfl) (by unfold maxLen;omega) (by omega) ?_);refine halt_ ?_)
   intro v5 w5 s5;have S7:=hid s5;clear s5 S4 k5;go_wp2_with fail
   go_ret2;refine ⟨v5,rfl,?_⟩;rw [HC2.out];simp only [List.map_append,List.length_append,zH,zD,List.map_nil];rw [Hn.out];exact SW.few (pre:=[_,_,_]) S7.out [0] (n:=3) rfl (by decide) (by decide)
 have hzi:¬ ((0:Int)<(E.2.1:Int)):=by omega
 have hce:=HCE.out;rw [if_neg hz] at hce;have HC2:=hid hce;clear hce HCE;go_wp2_with fail
 go_ret2;refine ⟨_,rfl,?_⟩;rw [HC2.out];exact SW.few (pre:=[_,_,_]) S4.out [0] (n:=3) rfl (by decide) (by decide)
end
end
section
open Go.RowKit Go.MapKept Go.ChangeMaps Go.Shelf Go.Sort
attribute [local go_sem] wext_cell
structure BS where
 d:BD
 bs:List UInt8
def bs0:BS:=⟨⟨none,0,0⟩,[]⟩
def encB (e:BS):List Value:=[.slice e.d.A e.d.len e.d.cap]
theorem encB_len (e:BS):(encB e).length=1:=rfl
def blOb (A:Option Addr) (T:List BS):Ob where
 own:=fun _=>False
 rd:=fun i=>(0<T.length/\A=some ⟨i,0,none⟩)∨∃ e∈T,blk e.d=some i
 holds:=fun w=>RowV w 34 1 A T.length (T.flatMap encB)/\∀ e∈T,RB w e.d e.bs
 stable:=fun w w' h hs hk=>by
  refine ⟨h.1.same (fun i hn e=>hk i (.inr (.inl ⟨hn,e⟩))),fun e he=>?_⟩;have hc:Ch w w' (fun i=>¬ blk e.d=some i) []:=⟨hs.1,hs.2.1,hs.2.2.1,hs.2.2.2,fun i _ hn _=>hk i (.inr (.inr ⟨e,he,Classical.not_not.1 hn⟩)),by simp⟩;exact (h.2 e he).ch hc (fun g hg hn=>hn hg) (by simp)
theorem blOb_at {w:World} {A:Option Addr} {T:List BS} (h:(blOb A T).holds w) {j:Nat} (hj:j<T.length) {e:BS} (he:T.getD j bs0=e):∃ g,A=some ⟨g,0,none⟩/\g<w.heap.size/\w.cell? ⟨g,j,none⟩=some (.slice e.d.A e.d.len e.d.cap)/\RB w e.d e.bs:=by
 obtain ⟨g,e1,hlt,hc⟩:=h.1.at (by omega);refine ⟨g,e1,hlt,?_,h.2 e ?_⟩
 · have:=flat_at encB_len bs0 T j 0 hj (by omega);rw [he] at this;rw [hc j (by omega)];simpa [encB] using this
 rw [<- he,zB,zG hj];exact List.getElem_mem hj
def DistB (T:List BS):Prop:=∀ j k,j<T.length->k<j->fpOf (T.getD j bs0).bs=fpOf (T.getD k bs0).bs->(T.getD j bs0).bs=(T.getD k bs0).bs
abbrev DistP (T:List BS) (w:World) (e:Ending) (w':World):Prop:=∃ v:Bool,e= .returned (.bool v)/\(v=true->DistB T)/\Below w.heap.size w w'
theorem info34:(Tryz.prog.info? 34).map (fun i=>(i.zero,i.size,i.bytes))=some (some (.slice none 0 0),1,24):=by kernel_rfl
def bufsOb (T:List BS):Ob where
 own:=fun _=>False
 rd:=fun i=>∃ e∈T,blk e.d=some i
 holds:=fun w=>∀ e∈T,RB w e.d e.bs
 stable:=fun w w' h hs hk e he=>by
  have hc:Ch w w' (fun i=>¬ blk e.d=some i) []:=⟨hs.1,hs.2.1,hs.2.2.1,hs.2.2.2,fun i _ hn _=>hk i (.inr ⟨e,he,Classical.not_not.1 hn⟩),by simp⟩;exact (h e he).ch hc (fun g hg hn=>hn hg) (by simp)
end
section
open Go.RowKit Go.MapKept Go.ChangeMaps Go.Shelf Go.Sort
attribute [local go_sem] wext_cell
def Chain:Nat->List Nat->Nat->Prop
 | a,[],z=>a=z
 | a,e::es,z=>a<e/\Chain e es z
theorem Chain.snoc:∀ {es:List Nat} {a z e:Nat},Chain a es z->z<e->Chain a (es++[e]) e
 | [],a,z,e,h,hz=>by
  have h:a=z:=h;exact ⟨by omega,rfl⟩
 | _::_,_,_,_,h,hz=>⟨h.1,Chain.snoc h.2 hz⟩
theorem Chain.le:∀ {es:List Nat} {a z:Nat},Chain a es z->a<=z
 | [],a,z,h=>Nat.le_of_eq h
 | e::es,a,z,h=>Nat.le_trans (Nat.le_of_lt h.1) h.2.le
theorem Chain.at:∀ {es:List Nat} {a z:Nat},Chain a es z->∀ {k:Nat},k<es.length->(a::es).getD k 0<es.getD k 0/\es.getD k 0<=z
 | [],_,_,_,k,hk=>by simp at hk
 | e::es,a,z,h,0,_=>⟨h.1,h.2.le⟩
 | e::es,a,z,h,k+1,hk=>Chain.at h.2 (by simpa using hk)
theorem endsF_chain (c:CutP) (bs:List UInt8):Chain 0 (endsF c bs).2.2 (bs.length-(endsF c bs).2.1):=by
 have:∀ (bs:List UInt8) (s:Nat×Nat×List Nat),s.2.1<=s.1->Chain 0 s.2.2 (s.1-s.2.1)->Chain 0 (bs.foldl (stepE c) s).2.2 ((bs.foldl (stepE c) s).1-(bs.foldl (stepE c) s).2.1):=by
  intro bs;induction bs with
  | nil=>intro s _ h;exact h
  | cons y bs ih=>
   intro s hs h;rw [List.foldl_cons];refine ih _ ?_ ?_
   · have h2:=stepE_pos c s y;omega
   unfold stepE;split
   · exact h.snoc (by omega)
   show Chain 0 s.2.2 (s.1+1-(s.2.1+1));rw [Nat.add_sub_add_right];exact h
 have h:=this bs (0,0,[]) (Nat.le_refl _) rfl;have h1:=(endsF_pos c bs).1;unfold endsF at h1 |-; rw [h1] at h;exact h
theorem cutEnds_chain (c:CutP) (bs:List UInt8):Chain 0 (cutEnds c bs) bs.length:=by
 have h:=endsF_chain c bs;have h1:=endsF_pos c bs;unfold cutEnds;split
 · exact h.snoc (by omega)
 have e:(endsF c bs).2.1=0:=by omega
 rw [e] at h;exact h
def pieceE (bs:List UInt8) (es:List Nat) (k:Nat):List UInt8:=(bs.drop ((0::es).getD k 0)).take (es.getD k 0-(0::es).getD k 0)
def cutsF (c:CutP) (bs:List UInt8):List (List UInt8):=(List.range (cutEnds c bs).length).map (pieceE bs (cutEnds c bs))
def bsOb (E:List BS):Ob where
 own:=fun _=>False
 rd:=fun i=>∃ e∈E,blk e.d=some i
 holds:=fun w=>∀ e∈E,RB w e.d e.bs
 stable:=fun w w' h hs hk e he=>by
  have hc:Ch w w' (fun i=>¬ blk e.d=some i) []:=⟨hs.1,hs.2.1,hs.2.2.1,hs.2.2.2,fun i _ hn _=>hk i (.inr ⟨e,he,Classical.not_not.1 hn⟩),by simp⟩;exact (h e he).ch hc (fun g hg hn=>hn hg) (by simp)
def vQ (e:BS):Value:=.slice e.d.A e.d.len e.d.cap
def arrE (E:List BS) (m:Nat):Array Value:=⟨E.map vQ++List.replicate (m-E.length) (.slice none 0 0)⟩
theorem arrE_set (E:List BS) (m:Nat) (e:BS) (h:E.length<m):(arrE E m).setIfInBounds E.length (vQ e)=arrE (E++[e]) m:=by
 unfold arrE;obtain ⟨j,hj⟩:∃ j,m-E.length=j+1:=⟨m-E.length-1,by omega⟩;have hj2:m-(E++[e]).length=j:=by simp;omega
 rw [hj,hj2];apply Array.ext'
 rw [Array.toList_setIfInBounds];simp only [List.replicate_succ];rw [List.set_append_right _ _ (by simp),List.length_map,Nat.sub_self];simp
theorem mk_pcs (w:World) (n:Nat) (hn:n<=100000):(Instr.makeSlice 86 (.int .i64 n) (.int .i64 n)).run Tryz.prog w= .ok (.slice (some ⟨w.heap.size,0,none⟩) n n) (w.alloc (.cells (arrE [] n) 34)):=by
 obtain ⟨i0,hi,hz0,hz1,hz2⟩:=info_parts info34;have:=run_makeSlice (P:=Tryz.prog) w 86 34 i0 _ Tryz.underlying86 hi hz0 .i64 .i64 n n (by omega) (by omega) (by rw [hz1];simp;omega) (by rw [hz2];omega) (by omega);simp only [Int.toNat_natCast] at this;have e:madeCells (Value.slice none 0 0).cells n=arrE [] n:=Array.ext' (by rw [show (Value.slice none 0 0).cells= #[Value.slice none 0 0] from rfl,toList_madeCells_one];simp [arrE]);rw [this,hz1,Nat.mul_one,e]
theorem slice34_at (W:World) (g o n c lo hi:Nat) (h1:lo<hi) (h2:hi<=n) (h3:n<=c):(Instr.slice 34 (.slice (some ⟨g,o,none⟩) n c) (some (vZn lo)) (some (vZn hi)) none).run Tryz.prog W= .ok (.slice (some ⟨g,o+lo,none⟩) (hi-lo) (c-lo)) W:=by
 have he:=elem_of 34 5 Tryz.underlying34;have ht':Tryz.prog.underlying 34=some (.slice (Tryz.prog.elem 34)):=by rw [he];exact Tryz.underlying34
 rw [Go.run_slice_lh (w:=W) 34 (some ⟨g,o,none⟩) n c ht' .i64 .i64 (lo:Int) (hi:Int) (by omega) (by omega) (by omega),he,Tryz.sizeOf5];simp only [Result.andThen,sliced,Int.toNat_natCast,Nat.mul_one];rw [if_neg (by omega)];simp [Addr.add]
theorem RS.part {w:World} {g o:Nat} {bs:List UInt8} (h:RS w (some ⟨g,o,none⟩) bs) {lo hi:Nat} (h1:lo<=hi) (h2:hi<=bs.length):RS w (some ⟨g,o+lo,none⟩) ((bs.drop lo).take (hi-lo)):=by
 refine ⟨(fun e=>by cases e),fun ad e=>⟨g,o+lo,by injection e with e;exact e.symm,fun j hj=>?_⟩⟩;obtain ⟨g',o',e',hc⟩:=h.2 _ rfl;injection e' with e1 e2 e3;subst e1;subst e2;rw [zC,zJ] at hj;rw [show o+lo+j=o+(lo+j) by omega,hc (lo+j) (by omega)];congr 1
 rw [zB,zB,zI (by omega),List.getElem?_drop]
end
section
open Go.RowKit Go.MapKept Go.ChangeMaps Go.Shelf Go.Sort
def lenS' (M:List (List UInt8)):Nat:=(M.map (·.length)).sum
def ddQ:List (List UInt8)->List (List UInt8)
 | []=>[]
 | t::M=>if t∈ddQ M then ddQ M else t::ddQ M
theorem ddQ_mem (M:List (List UInt8)):∀ t,t∈ddQ M↔t∈M:=by
 induction M with
 | nil=>intro t;simp [ddQ]
 | cons s M ih=>
  intro t;unfold ddQ;split
  · rename_i h
    rw [ih t,List.mem_cons];constructor
    · exact .inr
    rintro (rfl | h2)
    · exact (ih _).1 h
    exact h2
  rw [List.mem_cons,List.mem_cons,ih t]
theorem ddQ_nodup (M:List (List UInt8)):(ddQ M).Nodup:=by
 induction M with
 | nil=>exact List.nodup_nil
 | cons s M ih=>
  unfold ddQ;split
  · exact ih
  rename_i h
  exact List.nodup_cons.2 ⟨h,ih⟩
theorem ddQ_sum (M:List (List UInt8)):lenS' (ddQ M)<=lenS' M:=by
 induction M with
 | nil=>exact Nat.le_refl _
 | cons s M ih=>
  have e:lenS' (s::M)=s.length+lenS' M:=by simp [lenS']
  unfold ddQ;split
  · omega
  have e2:lenS' (s::ddQ M)=s.length+lenS' (ddQ M):=by simp [lenS']
  omega
def four:List UInt8:=[0,1,2,3]
theorem four_of {c:UInt8} (h:c.toNat<4):c∈four:=by
 have:c=0∨c=1∨c=2∨c=3:=by
  have:c.toNat=0∨c.toNat=1∨c.toNat=2∨c.toNat=3:=by omega
  rcases this with h | h | h | h
  · exact .inl (UInt8.toNat_inj.1 h)
  · exact .inr (.inl (UInt8.toNat_inj.1 h))
  · exact .inr (.inr (.inl (UInt8.toNat_inj.1 h)))
  exact .inr (.inr (.inr (UInt8.toNat_inj.1 h)))
 simpa [four] using this
def ones:List (List UInt8):=four.map fun c=>[c]
def twos:List (List UInt8):=four.flatMap fun c=>four.map fun d=>[c,d]
theorem filter_len (p q:List UInt8->Bool):∀ L:List (List UInt8),(∀ t,p t=true->t.length=1)->(∀ t,q t=true->t.length=2)->(∀ t∈L,t≠[])->(∀ t,t.length=1->p t=true)->(∀ t,t.length=2->q t=true)->3*L.length<=lenS' L+2*(L.filter p).length+(L.filter q).length:=by
 intro L h1 h2 h0 h3 h4;induction L with
 | nil=>simp [lenS']
 | cons t L ih=>
  have ih:=ih (fun t ht=>h0 t (zA _ ht));have e:lenS' (t::L)=t.length+lenS' L:=by simp [lenS']
  have hn:=List.length_pos_iff.2 (h0 t (by simp));rw [zF,zF,e,zE];by_cases l1:t.length=1
  · rw [if_pos (h3 t l1),if_neg (fun hq=>by have:=h2 t hq;omega),zE];omega
  by_cases l2:t.length=2
  · rw [if_neg (fun hp=>l1 (h1 t hp)),if_pos (h4 t l2),zE];omega
  rw [if_neg (fun hp=>l1 (h1 t hp)),if_neg (fun hq=>l2 (h2 t hq))];omega
theorem count4 {L:List (List UInt8)} (hn:L.Nodup) (h0:∀ t∈L,t≠[]) (h4:∀ t∈L,∀ c∈t,c.toNat<4):3*L.length<=lenS' L+24:=by
 have h:=filter_len (fun t=>decide (t.length=1)) (fun t=>decide (t.length=2)) L (fun t h=>of_decide_eq_true h) (fun t h=>of_decide_eq_true h) h0 (fun t h=>decide_eq_true h) (fun t h=>decide_eq_true h)
 have a1:=len_le_sub (L.filter fun t=>decide (t.length=1)) ones (hn.sublist List.filter_sublist) (fun t ht=>by
  obtain ⟨h1,h2⟩:=List.mem_filter.1 ht;have h2:t.length=1:=of_decide_eq_true h2;match t,h2 with
  | [c],_=>exact List.mem_map.2 ⟨c,four_of (h4 _ h1 c (by simp)),rfl⟩)
 have a2:=len_le_sub (L.filter fun t=>decide (t.length=2)) twos (hn.sublist List.filter_sublist) (fun t ht=>by
  obtain ⟨h1,h2⟩:=List.mem_filter.1 ht;have h2:t.length=2:=of_decide_eq_true h2;match t,h2 with
  | [c,d],_=>exact List.mem_flatMap.2 ⟨c,four_of (h4 _ h1 c (by simp)),List.mem_map.2 ⟨d,four_of (h4 _ h1 d (by simp)),rfl⟩⟩)
 have e1:ones.length=4:=by decide
 have e2:twos.length=16:=by decide
 omega
theorem count_in {L M:List (List UInt8)} (hn:L.Nodup) (hs:∀ t∈L,t∈M) (h0:∀ t∈M,t≠[]) (h4:∀ t∈M,∀ c∈t,c.toNat<4):3*L.length<=lenS' M+24:=by
 have h1:=len_le_sub L (ddQ M) hn (fun t ht=>(ddQ_mem M t).2 (hs t ht));have h2:=count4 (ddQ_nodup M) (fun t ht=>h0 t ((ddQ_mem M t).1 ht)) (fun t ht=>h4 t ((ddQ_mem M t).1 ht));have h3:=ddQ_sum M;omega
theorem pieces_chain (bs:List UInt8):∀ (es:List Nat) (a z:Nat),Chain a es z->z<=bs.length->((List.range es.length).map fun k=>(bs.drop ((a::es).getD k 0)).take (es.getD k 0-(a::es).getD k 0)).flatten=(bs.drop a).take (z-a)
 | [],a,z,h,_=>by
  have h:a=z:=h;subst h;simp
 | e::es,a,z,h,hz=>by
  obtain ⟨h1,h2⟩:=h;have ih:=pieces_chain bs es e z h2 hz;have hl:=h2.le;rw [zE,List.range_succ_eq_map,zD,List.flatten_cons,List.map_map]
  have e1:((fun k=>(bs.drop ((a::e::es).getD k 0)).take ((e::es).getD k 0-(a::e::es).getD k 0)) ∘ Nat.succ)=fun k=>(bs.drop ((e::es).getD k 0)).take (es.getD k 0-(e::es).getD k 0):=by
   funext k
   simp only [Function.comp,List.getD_cons_succ]
  rw [e1,ih];simp only [List.getD_cons_zero];have e2:z-a=(e-a)+(z-e):=by omega
  have e3:bs.drop e=(bs.drop a).drop (e-a):=by rw [List.drop_drop];congr 1;omega
  rw [e2,List.take_add,e3]
theorem cuts_all (c:CutP) (bs:List UInt8):(cutsF c bs).flatten=bs:=by
 have h:=pieces_chain bs (cutEnds c bs) 0 bs.length (cutEnds_chain c bs) (Nat.le_refl _);rw [List.drop_zero,Nat.sub_zero,List.take_length] at h;exact h
theorem cuts_pos (c:CutP) (bs:List UInt8):∀ t∈cutsF c bs,1<=t.length/\t.length<=bs.length/\∀ x∈t,x∈bs:=fun t ht=>by
 obtain ⟨k,hk,rfl⟩:=List.mem_map.1 ht;obtain ⟨h1,h2⟩:=(cutEnds_chain c bs).at (List.mem_range.1 hk);unfold pieceE;refine ⟨?_,?_,fun x hx=>List.mem_of_mem_drop (List.mem_of_mem_take hx)⟩
 · rw [zC,zJ];omega
 rw [zC,zJ];omega
theorem lenS_flat (M:List (List UInt8)):lenS' M=M.flatten.length:=by
 unfold lenS';rw [List.length_flatten]
end
section
open Go.RowKit Go.MapKept Go.ChangeMaps Go.Shelf Go.Sort
attribute [local go_sem] wext_cell
end
section
open Go.RowKit Go.MapKept Go.ChangeMaps Go.Shelf Go.Sort

def inOb (A:Option Addr) (L:List Int):Ob where
 own:=fun _=>False
 rd:=fun i=>0<L.length/\∃ o,A=some ⟨i,o,none⟩
 holds:=fun w=>RdT w w.heap.size A L/\L.length<=9223372036854775807
 stable:=fun w w' h hs hk=>by
  refine ⟨fun hp=>?_,h.2⟩;obtain ⟨b,o,e,hlt,hc⟩:=h.1 hp;have h2:=hk b (.inr ⟨hp,o,e⟩);refine ⟨b,o,e,Nat.lt_of_lt_of_le hlt hs.2.2.2,fun j hj=>?_⟩;rw [<- hc j hj];simp [World.cell?, h2]
section
variable {b:Nat} {w0 w w':World} {l:List Ob}
theorem SW.newTape {A:Option Addr} {L:List Int} (h:SW b w0 l w) (hm:inOb A L∈l) (c:Nat) {H:Nat} (hH:w.heap.size=H):SW b w0 (tpOb H A c L 0::l) (w.alloc (.cells #[.slice A L.length c,.int .i64 0] 50)):=by
 subst hH;have hh:RdT w w.heap.size A L/\L.length<=9223372036854775807:=h.1.holds _ hm;have hb:Below w.heap.size w (w.alloc (.cells #[.slice A L.length c,.int .i64 0] 50)):=(Below.refl _ _).alloc (Nat.le_refl _) _;have:=h.1.add (o':=tpOb w.heap.size A c L 0) hb ⟨IsB.new _ _ _,fun hp=>?_,hh.2⟩ (fun i hi=>?_) (fun i hi=>?_) (fun i hi hlt=>h.noOwn hm (fun _ h=>h) hi)
 · exact ⟨this.1,h.2.trans this.2⟩
 · obtain ⟨q,o,e,hlt,hc⟩:=hh.1 hp;exact ⟨q,o,e,by simp;omega,by omega,fun j hj=>(hb.cell hlt).trans (hc j hj)⟩
 · have hi:i=w.heap.size:=hi;rw [hi];exact ⟨Nat.le_refl _,by simp⟩
 obtain ⟨hp,o,e⟩:=hi;obtain ⟨q,o',e',hlt,_⟩:=hh.1 hp;rw [e] at e';injection e' with e';injection e' with e' _;rw [e'];exact Nat.lt_of_lt_of_le hlt (by simp)
theorem SW.ne {i j g g':Nat} {t t':TypeId} {cs cs':Array Value} (h:SW b w0 l w) (hi:l[i]? =some (cellOb g t cs)) (hj:l[j]? =some (cellOb g' t' cs')) (hij:i<j):g≠g':=by
 obtain ⟨h1,e1⟩:=List.getElem?_eq_some_iff.1 hi;obtain ⟨h2,e2⟩:=List.getElem?_eq_some_iff.1 hj;have:=List.pairwise_iff_getElem.1 h.1.apart i j h1 h2 hij;rw [e1,e2] at this;intro e;exact (this.1 g rfl).1 e
theorem Open_LS {ns:List ByteArray} {b:Nat} {w0 w:World} {l:List Ob} {p:Nat} {r:Rp} {s:St} (h:SW b w0 (devOb p r s::l) w) (nm:ByteArray) (hn:nameV nm=true) (hd:s.dn=false) (hf:s.f=0) (he:∀ m,s.now m=none) (ho:s.ops=[]) (h1:fileN nm∈ns) (h2:ns.length<=200):
 Calls Tryz.prog 20 #[vPtr p,.string nm] w (fun e w'=>∃ x:SR,e= .returned (.tuple #[vPtr x.ps,.int .i64 0])/\SW b w0 (x.obs l) w'/\Cl ns x/\x.C=[]/\x.F=none/\x.nm=nm/\x.p=p/\x.wait=0/\x.bytes=0/\x.s.ops=[]):=by
 refine (Open_empty h.1 nm hn hd he).mono ?_;rintro e w' ⟨H,hH,rfl,hs⟩;exact ⟨openedS p r s nm H,rfl,h.then hs,opened_cl hn hd hf he (by rw [ho];decide) h1 h2,rfl,rfl,rfl,rfl,rfl,rfl,ho⟩
end
theorem SW.startIn {w:World} {A:Option Addr} {L:List Int} (hr:RdT w w.heap.size A L) (hl:L.length<=9223372036854775807):SW w.heap.size w [inOb A L] w:=
 SW.start (o:=inOb A L) ⟨hr,hl⟩ (fun _ h=>h) (fun i hi=>by
  obtain ⟨hp,o,e⟩:=hi;obtain ⟨q,o',e',hlt,_⟩:=hr hp;rw [e] at e';injection e' with e';injection e' with e' _;rw [e'];exact hlt)
section
variable {b:Nat} {w0 w w':World} {l:List Ob}
theorem wpList_rowM {ops:Array Oper} {o:Oper} {rest:List Oper} {a:Act} {Q:Exit->Act->World->Prop} {t e:TypeId} {i:TypeInfo} {z:Value} {size bytes:Nat} (hS:SW b w0 l w) (k:Nat) {v:Value} {n:Nat} {xs:List Value} (hk:l[k]? =some (rowOb e size v n xs))
 (hgd:o.guard=none) (s x:Operand) (ho:o.op= .call { callee:=.builtin .append,args:= #[s,x],argTypes:= #[t,t] })
 (ht:Tryz.prog.underlying t=some (.slice e)) (hi:Tryz.prog.info? e=some i) (hz:i.zero=some z) (hsize:i.size=size) (hby:i.bytes=bytes) (hzs:z.cells.size=size) (hsz:0<size)
 (hs:a.eval s=v) (A:Option Addr) (m c:Nat) (news:List Value) (hx:a.eval x= .slice A m c) (hl:news.length=m*size) (hA:0<m->∃ ad,A=some ad/\∀ j u,news[j]? =some u->w.cell? (ad.add j)=some u) (h1:∀ u∈news,u.oneCell'=true)
 (h63:n+m<=maxLen) (hbytes:(n+m)*bytes<=140737488355328)
 (h:∀ v' w',SW b w0 (l.set k (rowOb e size v' (n+m) (xs++news))) w'->wpList Tryz.prog ops Q rest (a.put o.dst v') w'):
 wpList Tryz.prog ops Q (o::rest) a w:=by
 have:=step_rowM (ops:=ops) (Q:=Q) (E:=False) (K:=wpList Tryz.prog ops Q rest) hS k hk hgd s x ho ht hi hz hsize hby hzs hsz hs A m c news hx hl hA h1 h63 hbytes h;have hw:Region.wanted o (yielded ops a.tmps)=true:=by simp [Region.wanted,hgd]
 rw [if_pos hw] at this;unfold wpList
 first
  | (rw [if_pos hw];exact .inl this)
  | (simp only [hw,if_true];exact .inl this)
  | (simp only [hw,if_true];exact this)
end
end
section
open Go.RowKit Go.MapKept Go.ChangeMaps Go.Shelf Go.Sort
attribute [local go_sem] wext_cell
end
section
open Go.RowKit Go.MapKept Go.ChangeMaps Go.Shelf Go.Sort
attribute [local go_sem] wext_cell
end
section
open Go.RowKit Go.MapKept Go.ChangeMaps Go.Shelf Go.Sort
attribute [local go_sem] wext_cell
end
section
open Go.RowKit Go.MapKept Go.ChangeMaps Go.Shelf Go.Sort
attribute [local go_sem] wext_cell

end
section
open Go.RowKit Go.MapKept Go.ChangeMaps Go.Shelf Go.Sort
attribute [local go_sem] wext_cell
end
section
open Go.RowKit Go.MapKept Go.ChangeMaps Go.Shelf Go.Sort
section
variable {b:Nat} {w0 w w':World} {l:List Ob}
theorem SW.fuseB {d:BD} {bs:List UInt8} {T:List BS} (h:SW b w0 (bufOb d bs::bufsOb T::l) w):SW b w0 (bufsOb (T++[(⟨d,bs⟩:BS)])::l) w:=
 SW.fuse (pre:=[bufOb d bs,bufsOb T]) h (fun e he=>by
  rcases List.mem_append.1 he with he | he
  · exact (h.get 1 (o:=bufsOb T) rfl) e he
  · rw [List.mem_singleton.1 he];exact h.get 0 (o:=bufOb d bs) rfl) (fun _ h=>h) (fun i hi=>by
  obtain ⟨e,he,hb⟩:=hi;rcases List.mem_append.1 he with he | he
  · exact ⟨bufsOb T,by simp,.inr ⟨e,he,hb⟩⟩
  rw [List.mem_singleton.1 he] at hb;exact ⟨bufOb d bs,by simp,.inl hb⟩)
theorem SW.noBufs (h:SW b w0 l w):SW b w0 (bufsOb []::l) w:=SW.fuse (pre:=[]) h (fun e he=>by cases he) (fun _ h=>h) (fun i hi=>by
 obtain ⟨e,he,_⟩:=hi;cases he)
end
section
variable {dp t:Nat} {x x':SR}
theorem LayS.put (h:LayS x) {bs:List UInt8} {d:BD} (ha:asc x.C (fpOf bs)=none):LayS (putS x (fpOf bs) d bs):=by
 intro f hf;obtain ⟨D,h1,cs,h2,h3,h4,h5⟩:=h f hf;refine ⟨D,h1,cs,h2,h3,h4,fun i o=>?_⟩;rw [<- h5]
 have hn:fpOf bs ∉ x.C.map (·.1):=fun hm=>by
  have:=asc_key.2 hm;rw [ha] at this;cases this
 show (i,Pl.at o)∈setL x.C (fpOf bs) (.pend d bs)↔_;rw [setL_new hn];simp
end
theorem lost_s (s:St) (keep torn:Int):restartS (loseS s keep torn)=⟨lossF s keep torn,[],false,0⟩:=by
 have e:lossF s.cut keep torn=lossF s keep torn:=rfl;unfold restartS loseS decideS;rw [if_pos (by rfl),loss_none _ _ _ rfl,e];rfl
section
variable {nm:ByteArray} {P:List (List UInt8)} {ids:List ID} {K:FF} {s:St}
theorem di_of (h:∀ m,(K m).isSome=true->m=fileN nm∨m=freshN nm):DI [fileN nm,freshN nm] ⟨K,[],false,0⟩:=
 ⟨rfl,rfl,by simp,by simp,fun m hm=>by
  have h1:(K m).isSome=true:=hm;rcases h m h1 with rfl | rfl<;>simp⟩
end
end
section
open Go.RowKit Go.MapKept Go.ChangeMaps Go.Shelf Go.Sort
attribute [local go_sem] wext_cell
end
section
open Go.RowKit Go.MapKept Go.ChangeMaps Go.Shelf Go.Sort
section
variable {b:Nat} {w0 w:World} {l:List Ob} {P0:List (List UInt8)} {live:List ID} {cp ps dp:Nat} {x:SR}
theorem Lose_S {p:Nat} {r:Rp} {s:St} {k:Nat} (h:SW b w0 l w) (hk:l[k]? =some (devOb p r s)) (keep torn:Int) (hL:s.ops.length<=1000000) (ht:torn<=9223372036854775807):Calls Tryz.prog 51 #[vPtr p,.agg #[.int .i64 keep,.int .i64 torn]] w (fun e w'=>e= .returned (.tuple #[])/\∃ r',SW b w0 (l.set k (devOb p r' (loseS s keep torn))) w'):=by
 refine (goes_S (Lose_any p r s keep torn w (h.1.dv hk) hL ht) h.1 hk).mono ?_;rintro e w' ⟨rfl,r',s',hb⟩;exact ⟨rfl,r',s',h.2.trans hb⟩
theorem Restart_S {p:Nat} {r:Rp} {s:St} {k:Nat} (h:SW b w0 l w) (hk:l[k]? =some (devOb p r s)) (hL:s.ops.length<=1000000):Calls Tryz.prog 52 #[vPtr p] w (fun e w'=>e= .returned (.tuple #[])/\∃ r',SW b w0 (l.set k (devOb p r' (restartS s))) w'):=by
 refine (goes_S (Restart_any p r s w (h.1.dv hk) hL) h.1 hk).mono ?_;rintro e w' ⟨rfl,r',s',hb⟩;exact ⟨rfl,r',s',h.2.trans hb⟩
end
section
variable {ns:List ByteArray} {b:Nat} {w0 w:World} {x:SR} {l:List Ob} {Q P:List (List UInt8)}
abbrev PutQP (Q:List (List UInt8)) (ns:List ByteArray) (b:Nat) (w0:World) (x:SR) (P:List (List UInt8)) (bs:List UInt8) (l:List Ob) (e:Ending) (w':World):Prop:=
 e= .returned (.tuple #[.agg #[.int .u64 (fpOf bs).1,.int .i64 (fpOf bs).2],.int .i64 0])/\∃ x':SR,SW b w0 (x'.obs l) w'/\Cl ns x'/\TQ Q x' (P++[bs])/\x'.ps=x.ps/\x'.p=x.p/\x'.nm=x.nm/\x'.F=x.F/\x'.s=x.s/\(LayS x->LayS x')
theorem Put_Q (h:SW b w0 (x.obs l) w) (hc:Cl ns x) (hQ:TS Q) (hT:TQ Q x P) (A:Option Addr) (c:Nat) (bs:List UInt8) (hs:RS w A bs) (ht:bs∈Q):
 Calls Tryz.prog 23 #[vPtr x.ps,.slice A bs.length c] w (PutQP Q ns b w0 x P bs l):=by
 have h1:=hQ.lo bs ht;have h2:=hQ.hi bs ht;cases ha:asc x.C (fpOf bs) with
 | none=>
  have hf:=hT.few hQ hc.keys;refine (PutN_L h hc A c bs hs (by omega) (by omega) ha (by omega)).mono ?_;rintro e w' ⟨rfl,d,s,hc'⟩;exact ⟨rfl,_,s,hc',hT.put ht ha d,rfl,rfl,rfl,rfl,rfl,fun hL=>hL.put ha⟩
 | some pl=>
  have hm:fpOf bs∈P.map fpOf:=by
   have:=hT.has (fpOf bs);rw [ha] at this;exact of_decide_eq_true this.symm
  obtain ⟨t,ht',e⟩:=List.mem_map.1 hm;have e2:=hQ.inj t (hT.text t ht') bs ht e;subst e2;refine (PutS_L h hc A c t hs (by omega) (by omega) (hT.val t ht')).mono ?_;rintro e w' ⟨rfl,s⟩;exact ⟨rfl,x,s,hc,hT.more ht',rfl,rfl,rfl,rfl,rfl,fun hL=>hL⟩
theorem flen_fewQ (h:Cl ns x) (hQ:TS Q) (hL:LayS x) (hT:TQ Q x P):flen x.F<=50372:=by
 cases hF:x.F with
 | none=>simp [flen]
 | some f=>
  obtain ⟨D,h1,cs,h2,h3,h4,h5⟩:=hL f hF;obtain ⟨_,D',k1,k2,k3⟩:=h.file f hF;rw [h1] at k1;injection k1 with k1;subst k1
  have hin:∀ i∈cs.map fpOf,∃ t∈Q,fpOf t=i:=fun i hi=>by
   rw [<- layC_keys 0 cs] at hi;obtain ⟨⟨j,pl⟩,hm,e⟩:=List.mem_map.1 hi;simp only at e;subst e;obtain ⟨o,e⟩:=layC_at cs 0 _ hm;simp only at e;subst e;obtain ⟨t,_,e,ht⟩:=hT.key (List.mem_map.2 ⟨_,(h5 _ o).2 hm,rfl⟩);exact ⟨t,ht,e⟩
  have hn:=hQ.fewI h4 hin;rw [List.length_map] at hn
  have h2':∀ cs:List (List UInt8),(∀ c∈cs,c.length<=1000)->layN cs<=1028*cs.length:=by
   intro cs;induction cs with
   | nil=>intro _;simp [layN]
   | cons c cs ih=>
    intro ht;have e:layN (c::cs)=28+c.length+layN cs:=by simp [layN]
    have:=ih (fun d hd=>ht d (zA _ hd));have:=ht c (by simp);rw [e,zE];omega
  have hl:=h2' cs (fun c hc=>by
   obtain ⟨t,ht,e⟩:=hin (fpOf c) (List.mem_map.2 ⟨c,hc,rfl⟩);have:=hQ.hi t ht;have e2:=congrArg (·.2) e;simp only [fpOf] at e2;omega)
  simp only [flen];rw [<- k2,h2,layB_len];omega
theorem Flush_Q (h:SW b w0 (x.obs l) w) (hc:Cl ns x) (hQ:TS Q) (hL:LayS x) (hT:TQ Q x P):Calls Tryz.prog 35 #[vPtr x.ps] w (FlushL ns b w0 x l):=by
 have h1:=hT.few hQ hc.keys;have h2:=pends_le x.C;have h3:=hT.pends hQ;have h5:=flen_fewQ hc hQ hL hT;exact Flush_L h hc (by omega) (by omega)
theorem open_lostQ {dp:Nat} {rp:Rp} {s:St} (h:SW b w0 (devOb dp rp s::l) w) (hb0:0<b) (hS:Syn w0) (hQ:TS Q) (hD:DI [fileN nmS,freshN nmS] s) (hI:ShutQ Q s nmS P):Calls Tryz.prog 20 #[vPtr dp,.string nmS] w (fun e w'=>∃ x:SR,e= .returned (.tuple #[vPtr x.ps,.int .i64 0])/\SW b w0 (x.obs l) w'/\OpenedQ Q [fileN nmS,freshN nmS] x P):=by
 refine (Open_gen h.1 nmS ((s.now (fileN nmS)).getD []) nmS_ok hD.up hb0 (hS.on hb0 h.2) (fun m hm'=>?_) (fun hs=>?_)).mono ?_
 · have:=hD.ns3 m hm';simp only [List.mem_cons,List.not_mem_nil,or_false] at this;rcases this with rfl | rfl
   · exact .inl rfl
   exact .inr (.inl rfl)
 · obtain ⟨D,hD'⟩:=Option.isSome_iff_exists.1 hs;rw [hD'];exact readE_ok hD.up (nameB_file nmS_ok) hD'
 rintro e w' ⟨H,C,F,hH,rfl,s2,hx⟩;exact ⟨_,rfl,h.then s2,openQ_shut hQ hD hI nmS_ok (by simp) hx⟩
end
theorem TS.cuts {c:CutP} {bs:List UInt8} (hl:bs.length<=79) (h4:∀ x∈bs,x.toNat<4) {m:List UInt8} (hm1:1<=m.length) (hm2:m.length<=1000) (hinj:∀ a∈m::cutsF c bs,∀ b∈m::cutsF c bs,fpOf a=fpOf b->a=b):TS (m::cutsF c bs) where
 inj:=hinj
 lo:=fun a ha=>by
  rcases List.mem_cons.1 ha with rfl | ha
  · exact hm1
  exact (cuts_pos c bs a ha).1
 hi:=fun a ha=>by
  rcases List.mem_cons.1 ha with rfl | ha
  · exact hm2
  have:=(cuts_pos c bs a ha).2.1;omega
 few:=fun cs hn hs=>by
  have h1:(cs.filter fun t=> !decide (t=m)).length+1>=cs.length:=by
   have:∀ cs:List (List UInt8),cs.Nodup->(cs.filter fun t=> !decide (t=m)).length+1>=cs.length/\(m ∉ cs->(cs.filter fun t=> !decide (t=m)).length=cs.length):=by
    intro cs;induction cs with
    | nil=>intro _;simp
    | cons t cs ih=>
     intro hn;obtain ⟨h1,h2⟩:=ih (List.nodup_cons.1 hn).2;by_cases e:t=m
     · subst e;have h3:=h2 (List.nodup_cons.1 hn).1;rw [zF,if_neg (by simp),zE];exact ⟨by omega,fun h=>absurd (List.mem_cons_self ..) h⟩
     rw [zF,if_pos (by simp [e]),zE,zE];exact ⟨by omega,fun h=>by rw [h2 (fun hm=>h (zA _ hm))]⟩
   exact (this cs hn).1
  have h2:=count_in (L:=cs.filter fun t=> !decide (t=m)) (M:=cutsF c bs) (hn.sublist List.filter_sublist) (fun t ht=>by
   obtain ⟨k1,k2⟩:=List.mem_filter.1 ht;rcases List.mem_cons.1 (hs t k1) with e | k3
   · rw [e] at k2;simp at k2
   exact k3) (fun t ht=>List.length_pos_iff.1 (cuts_pos c bs t ht).1) (fun t ht x hx=>h4 x ((cuts_pos c bs t ht).2.2 x hx))
  rw [lenS_flat,cuts_all] at h2;omega
end
section
open Go.RowKit Go.MapKept Go.ChangeMaps
attribute [local go_sem] wext_cell

end
end Go.Proofs.YteabgcollokgjaaGreatDoor
