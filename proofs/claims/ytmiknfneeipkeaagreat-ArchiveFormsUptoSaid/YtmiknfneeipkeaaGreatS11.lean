/- Contracts of the walk, part 11. -/
import Derived.Deep.RegionHeld3
import Derived.Test.YtmiknfneeipkeaaGreatS10
import Derived.Test.YtmiknfneeipkeaaGreatS02
open Go.Lib (hid)
namespace Go.Proofs.YtmiknfneeipkeaaGreat
open Go.RowKit
attribute [local go_sem] wext_cell
theorem ltID_irrefl (a:ID):ltID a a=false:=by simp [ltID]
theorem mltID_trans {a b c:ID} (h1:ltID a b=true) (h2:ltID b c=true):ltID a c=true:=by
  simp [ltID] at*
  omega
theorem ltID_tri {a b:ID} (h1:ltID a b=false) (h2:a≠b):ltID b a=true:=by
  obtain ⟨a1,a2⟩:=a
  obtain ⟨b1,b2⟩:=b
  simp [ltID] at*
  omega
def putR:List CT->ID->Int->List CT
  | [],i,n=>[(i,n)]
  | c::t,i,n=>if ltID c.1 i then c::putR t i n else if c.1=i then (i,c.2+n)::t else (i,n)::c::t
theorem putR_keys (t:List CT) (i:ID) (n:Int):∀ j,j∈(putR t i n).map (·.1)↔j=i∨j∈t.map (·.1):=by
  intro j
  induction t with
  | nil=>simp [putR]
  | cons c t ih=>
    rw [putR]
    split
    · rw [List.map_cons,List.mem_cons,ih,List.map_cons,List.mem_cons]
      constructor<;>rintro (h | h | h)<;>simp [h]
    · split
      · rename_i e;subst e;simp
      · simp
theorem putR_asc {t:List CT} (h:Asc t) (i:ID) (n:Int):Asc (putR t i n):=by
  induction t with
  | nil=>simp [putR,Asc]
  | cons c t ih=>
    obtain ⟨h1,h2⟩:=List.pairwise_cons.1 h
    rw [putR]
    split
    · rename_i hc
      refine List.pairwise_cons.2 ⟨fun d hd=>?_,ih h2⟩
      have:d.1∈(putR t i n).map (·.1):=List.mem_map.2 ⟨d,hd,rfl⟩
      rcases (putR_keys t i n d.1).1 this with e | e
      · rw [e];exact hc
      · obtain ⟨d',hd',e'⟩:=List.mem_map.1 e
        rw [<- e']
        exact h1 d' hd'
    · rename_i hc
      split
      · rename_i e
        subst e
        exact List.pairwise_cons.2 ⟨h1,h2⟩
      · rename_i e
        have hlt:=ltID_tri (by simpa using hc) e
        refine List.pairwise_cons.2 ⟨fun d hd=>?_,h⟩
        rcases List.mem_cons.1 hd with rfl | hd
        · exact hlt
        · exact mltID_trans hlt (h1 d hd)
theorem asc_ne_of_lt {t:List CT} {i:ID} (h:∀ c∈t,ltID i c.1=true):asc t i=none:=
  asc_none (fun c hc e=>by have:=h c hc;rw [e,ltID_irrefl] at this;cases this)
theorem asc_putR {t:List CT} (h:Asc t) (i j:ID) (n:Int):asc (putR t i n) j=if i=j then some (nAt t i+n) else asc t j:=by
  induction t with
  | nil=>simp [putR,asc,nAt]
  | cons c t ih=>
    obtain ⟨h1,h2⟩:=List.pairwise_cons.1 h
    rw [putR]
    split
    · rename_i hc
      have hne:c.1≠i:=fun e=>by rw [e,ltID_irrefl] at hc;cases hc
      have e1:nAt (c::t) i=nAt t i:=by simp [nAt,asc,hne]
      simp only [asc,ih h2,e1]
      by_cases hij:i=j
      · subst hij;simp [hne]
      · simp [hij]
    · rename_i hc
      split
      · rename_i e
        subst e
        simp only [asc,nAt]
        by_cases hj:c.1=j<;>simp [hj]
      · rename_i e
        have hlt:=ltID_tri (by simpa using hc) e
        have e0:asc (c::t) i=none:=asc_ne_of_lt (fun d hd=>by
          rcases List.mem_cons.1 hd with rfl | hd
          · exact hlt
          · exact mltID_trans hlt (h1 d hd))
        simp only [nAt,e0]
        rw [asc]
        simp
def NewC (x:Nat) (t:List CT) (w:World) (e:Ending) (w':World):Prop:=
  ∃ (A:Option Addr) (c:Nat),e= .returned (.slice A t.length c)/\RdC w' x A t/\t.length<=c/\(∀ ad,A=some ad->w.heap.size<=ad.block/\ad.block<w'.heap.size)/\Below w.heap.size w w'
theorem drop_cons_getD {α:Type} (l:List α) (d:α) (k:Nat) (h:k<l.length):l.drop k=l.getD k d::l.drop (k+1):=by
  rw [List.drop_eq_getElem_cons h,List.getD_eq_getElem?_getD,List.getElem?_eq_getElem h]
  rfl
def PutInv (t:List CT) (i:ID) (n:Int) (k:Nat) (put:Bool) (xs:List CT):Prop:=xs++(if put then t.drop k else putR (t.drop k) i n)=putR t i n/\xs.length<=2*k
theorem PutInv.start (t:List CT) (i:ID) (n:Int):PutInv t i n 0 false []:=by simp [PutInv]
theorem PutInv.tail {t:List CT} {i:ID} {n:Int} {k:Nat} {xs:List CT} (h:PutInv t i n k true xs) (hk:k<t.length):PutInv t i n (k+1) true (xs++[t.getD k ct0]):=by
  obtain ⟨h1,h2⟩:=h
  rw [if_pos rfl,drop_cons_getD t ct0 k hk] at h1
  exact ⟨by rw [if_pos rfl,List.append_assoc];exact h1,by simp;omega⟩
theorem PutInv.less {t:List CT} {i:ID} {n:Int} {k:Nat} {xs:List CT} (h:PutInv t i n k false xs) (hk:k<t.length) (hl:ltID (t.getD k ct0).1 i=true):PutInv t i n (k+1) false (xs++[t.getD k ct0]):=by
  obtain ⟨h1,h2⟩:=h
  rw [if_neg (by simp),drop_cons_getD t ct0 k hk,putR,if_pos hl] at h1
  exact ⟨by rw [if_neg (by simp),List.append_assoc];exact h1,by simp;omega⟩
theorem PutInv.same {t:List CT} {i:ID} {n:Int} {k:Nat} {xs:List CT} (h:PutInv t i n k false xs) (hk:k<t.length) (hl:ltID (t.getD k ct0).1 i=false) (he:(t.getD k ct0).1=i):PutInv t i n (k+1) true (xs++[(i,(t.getD k ct0).2+n)]):=by
  obtain ⟨h1,h2⟩:=h
  rw [if_neg (by simp),drop_cons_getD t ct0 k hk,putR,if_neg (by rw [hl];simp),if_pos he] at h1
  exact ⟨by rw [if_pos rfl,List.append_assoc];exact h1,by simp;omega⟩
theorem PutInv.new {t:List CT} {i:ID} {n:Int} {k:Nat} {xs:List CT} (h:PutInv t i n k false xs) (hk:k<t.length) (hl:ltID (t.getD k ct0).1 i=false) (he:(t.getD k ct0).1≠i):PutInv t i n (k+1) true (xs++[(i,n)]++[t.getD k ct0]):=by
  obtain ⟨h1,h2⟩:=h
  rw [if_neg (by simp),drop_cons_getD t ct0 k hk,putR,if_neg (by rw [hl];simp),if_neg he] at h1
  exact ⟨by simpa using h1,by simp;omega⟩
theorem PutInv.stop {t:List CT} {i:ID} {n:Int} {xs:List CT} (h:PutInv t i n t.length true xs):xs=putR t i n:=by
  have h1:=h.1
  rw [if_pos rfl,List.drop_length] at h1
  simpa using h1
theorem PutInv.last {t:List CT} {i:ID} {n:Int} {xs:List CT} (h:PutInv t i n t.length false xs):xs++[(i,n)]=putR t i n:=by
  have h1:=h.1
  rw [if_neg (by simp),List.drop_length] at h1
  exact h1
def PutRel (t:List CT) (s z n:Int) (w:World) (v7 v8 v9:Value) (wr:World):Prop:=
  ∃ (k:Nat) (put:Bool) (xs:List CT) (A:Option Addr) (c:Nat),k<=t.length/\v9= .int .i64 k/\v8= .bool put/\v7= .slice A xs.length c/\PutInv t (s,z) n k put xs/\
    wr.ownsRow w.heap.size 125 3 (.slice A xs.length c) xs.length (xs.flatMap encC)/\IsB wr w.heap.size 36 #[.int .u64 s,.int .i64 z]/\Below w.heap.size w wr
theorem own_onM {w w':World} {base:Nat} {e:TypeId} {size n:Nat} {v:Value} {xs:List Value} (h:w.ownsRow base e size v n xs) (hb:Below w.heap.size w w'):w'.ownsRow base e size v n xs:=
  h.kept (only_of_below hb none) (by
    cases hv:v.ownBlock with
    | none=>exact .inl rfl
    | some k=>exact .inr (by simp))
theorem B_cell {w w':World} {b o:Nat} {v:Value} (h:Below w.heap.size w w') (hb:b<w.heap.size) (hc:w.cell? ⟨b,o,none⟩=some v):w'.cell? ⟨b,o,none⟩=some v:=(h.cell (p:=⟨b,o,none⟩) hb).trans hc
set_option maxHeartbeats 8000000 in
set_option maxRecDepth 100000 in
theorem Put_any (x:Nat) (t:List CT) (A:Option Addr) (c:Nat) (s z n:Int) (w:World) (hr:RdC w x A t) (hx:x<w.heap.size) (hl:t.length<=4294967296) (hn: -1099511627776<=n/\n<=1099511627776) (hbd:∀ c∈t, -1099511627776000<=c.2/\c.2<=1099511627776000):
    Calls Tryz.prog 130 #[.slice A t.length c,.agg #[.int .u64 s,.int .i64 z],.int .i64 n] w (NewC x (putR t (s,z) n) w):=by
  obtain ⟨i0,hi,hz0,hz1,hz2⟩:=info_parts info125
  have Hr:=hid hr
  have Hbd:=hid hbd
  clear hr hbd
  go_enter Tryz.func130,Tryz.ntmps130
  go_wp2_with fail
  go_loopw [7,8,9] (fun v7 v8 v9 wr=>PutRel t s z n w v7 v8 v9 wr) (fun _ _ v9 _=>t.length-(intOf v9).toNat)
  case atStart=>exact ⟨0,false,[],none,0,Nat.zero_le _,rfl,rfl,rfl,PutInv.start _ _ _,World.ownsRow_nil _ _ _ _,IsB.new _ _ _,bel1 _ _⟩
  case round=>
    obtain ⟨k,put,xs,B,d,hk,rfl,rfl,rfl,hinv,hown,hI,hb⟩:=hrel
    have hsz:=hb.size
    have hxl:=hinv.2
    have hIl:=hI.lt
    have Hinv:=hid hinv
    have K0:=hid hown
    have I0:=hid hI
    have B0:=hid hb
    clear hinv hown hI hb
    by_cases hlt:k<t.length
    · obtain ⟨b,o,rfl,hbB,_,hc⟩:=Hr.out (by omega)
      obtain ⟨p,q,m,HI⟩:∃ p q m,Hid (t.getD k ct0=((p,q),m)):=⟨_,_,_,rfl⟩
      have hm:=Hbd.out _ (getD_mem t ct0 k hlt)
      rw [HI.out] at hm
      simp only at hm
      have C0:Hid (w.cell? ⟨b,o+k*3,none⟩=some (.int .u64 p)):=hc k hlt 0 _ (by rw [HI.out];rfl)
      have C1:Hid (w.cell? ⟨b,o+k*3+1,none⟩=some (.int .i64 q)):=hc k hlt 1 _ (by rw [HI.out];rfl)
      have C2:Hid (w.cell? ⟨b,o+k*3+2,none⟩=some (.int .i64 m)):=hc k hlt 2 _ (by rw [HI.out];rfl)
      have hc0:=B_cell B0.out hbB C0.out
      have hc1:=B_cell B0.out hbB C1.out
      have hc2:=B_cell B0.out hbB C2.out
      have hi0:wr.cell? ⟨w.heap.size,0,none⟩=some (.int .u64 s):=by rw [I0.out.cell];rfl
      have hi1:wr.cell? ⟨w.heap.size,1,none⟩=some (.int .i64 z):=by rw [I0.out.cell];rfl
      have hbl:b<wr.heap.size:=by omega
      clear hc
      cases put with
      | true=>
        go_wp2_with fail
        refine wp_region_ext (by kernel_rfl) (by kernel_rfl) ?_
        repeat (go_big_quiet_step (fail))
        refine wpQuiet_nil ?_
        intro w2 hb2
        have K2:Hid (w2.ownsRow w.heap.size 125 3 (.slice B xs.length d) xs.length (xs.flatMap encC)):=own_onM K0.out hb2
        have I2:Hid (IsB w2 w.heap.size 36 #[.int .u64 s,.int .i64 z]):=I0.out.on hb2
        have B2:Hid (Below w.heap.size w w2):=B0.out.trans (hb2.mono hsz)
        have hs2:=hb2.size
        have hd0:=B_cell B2.out hbB C0.out
        have hd1:=B_cell B2.out hbB C1.out
        have hd2:=B_cell B2.out hbB C2.out
        have hj0:w2.cell? ⟨w.heap.size,0,none⟩=some (.int .u64 s):=by rw [I2.out.cell];rfl
        have hj1:w2.cell? ⟨w.heap.size,1,none⟩=some (.int .i64 z):=by rw [I2.out.cell];rfl
        clear hb2 hc0 hc1 hc2 hi0 hi1
        go_wp2_with (at_builtin;refine halt_ ?_)
        unfold Hid
        refine wpList_append_lies _ rfl _ _ _ rfl w.heap.size 125 i0 _ 3 24 Tryz.underlying49 hi hz0 hz1 hz2 rfl (by decide) _ xs.length _ rfl (K2.out.alloc _) ⟨w2.heap.size,0,none⟩ 1 1 [.int .u64 p,.int .i64 q,.int .i64 m] rfl rfl (mthree_new _ _ _ _ _ _ (by simp)) (encC_one ((p,q),m)) (by omega) (by unfold maxLen;omega) (by omega) (by simp;omega) (w2.heap.size+1) (by simp) ?_
        intro g3 c3 w3 hown3 hgrow3 hat3 hlt3
        have K3:=hid hown3
        have B3:Hid (Below w.heap.size w w3):=(B2.out.alloc B2.out.size _).grown hgrow3 (by simp;have:=B2.out.size;omega) (fun k hk=>(K2.out.lt k hk).1)
        have I3:Hid (IsB w3 w.heap.size 36 #[.int .u64 s,.int .i64 z]):=(I2.out.alloc _).grown hgrow3 (I2.out.own_ne K2.out (by decide))
        clear hown3 hgrow3 hat3
        go_wp2_with fail
        go_roundw
        case rel=>
          refine ⟨k+1,true,xs++[((p,q),m)],some ⟨g3,0,none⟩,c3,by omega,by go_num,rfl,by simp,by have:=Hinv.out.tail hlt;rwa [HI.out] at this,?_,I3.out,B3.out⟩
          simp only [List.length_append,List.length_singleton,List.flatMap_append]
          first | exact K3.out | simpa [Nat.add_assoc] using K3.out
        case measure=>simp [intOf];omega
      | false=>
        have HL:=hid (fun W=>Less_any p q s z W)
        cases hlo:ltID (p,q) (s,z) with
        | true=>
          rw [hlo] at HL
          have Hlo:=hid hlo
          clear hlo
          go_wp2_with fail
          refine wp_region_ext (by kernel_rfl) (by kernel_rfl) ?_
          repeat (go_big_quiet_step ((go_at_call 71;exact ext_call (HL.out _))))
          refine wpQuiet_nil ?_
          intro w2 hb2
          have K2:Hid (w2.ownsRow w.heap.size 125 3 (.slice B xs.length d) xs.length (xs.flatMap encC)):=own_onM K0.out hb2
          have I2:Hid (IsB w2 w.heap.size 36 #[.int .u64 s,.int .i64 z]):=I0.out.on hb2
          have B2:Hid (Below w.heap.size w w2):=B0.out.trans (hb2.mono hsz)
          have hs2:=hb2.size
          have hd0:=B_cell B2.out hbB C0.out
          have hd1:=B_cell B2.out hbB C1.out
          have hd2:=B_cell B2.out hbB C2.out
          have hj0:w2.cell? ⟨w.heap.size,0,none⟩=some (.int .u64 s):=by rw [I2.out.cell];rfl
          have hj1:w2.cell? ⟨w.heap.size,1,none⟩=some (.int .i64 z):=by rw [I2.out.cell];rfl
          clear hb2 hc0 hc1 hc2 hi0 hi1
          go_wp2_with (at_builtin;refine halt_ ?_)
          unfold Hid
          refine wpList_append_lies _ rfl _ _ _ rfl w.heap.size 125 i0 _ 3 24 Tryz.underlying49 hi hz0 hz1 hz2 rfl (by decide) _ xs.length _ rfl (K2.out.alloc _) ⟨w2.heap.size,0,none⟩ 1 1 [.int .u64 p,.int .i64 q,.int .i64 m] rfl rfl (mthree_new _ _ _ _ _ _ (by simp)) (encC_one ((p,q),m)) (by omega) (by unfold maxLen;omega) (by omega) (by simp;omega) (w2.heap.size+1) (by simp) ?_
          intro g3 c3 w3 hown3 hgrow3 hat3 hlt3
          have K3:=hid hown3
          have B3:Hid (Below w.heap.size w w3):=(B2.out.alloc B2.out.size _).grown hgrow3 (by simp;have:=B2.out.size;omega) (fun k hk=>(K2.out.lt k hk).1)
          have I3:Hid (IsB w3 w.heap.size 36 #[.int .u64 s,.int .i64 z]):=(I2.out.alloc _).grown hgrow3 (I2.out.own_ne K2.out (by decide))
          clear hown3 hgrow3 hat3
          go_wp2_with fail
          go_roundw
          case rel=>
            refine ⟨k+1,false,xs++[((p,q),m)],some ⟨g3,0,none⟩,c3,by omega,by go_num,rfl,by simp,by have:=Hinv.out.less hlt (by rw [HI.out];exact Hlo.out);rwa [HI.out] at this,?_,I3.out,B3.out⟩
            simp only [List.length_append,List.length_singleton,List.flatMap_append]
            first | exact K3.out | simpa [Nat.add_assoc] using K3.out
          case measure=>simp [intOf];omega
        | false=>
          rw [hlo] at HL
          have Hlo:=hid hlo
          clear hlo
          go_wp2_with fail
          refine wp_region_ext (by kernel_rfl) (by kernel_rfl) ?_
          repeat (go_big_quiet_step ((go_at_call 71;exact ext_call (HL.out _))))
          refine wpQuiet_nil ?_
          intro w2 hb2
          have K2:Hid (w2.ownsRow w.heap.size 125 3 (.slice B xs.length d) xs.length (xs.flatMap encC)):=own_onM K0.out hb2
          have I2:Hid (IsB w2 w.heap.size 36 #[.int .u64 s,.int .i64 z]):=I0.out.on hb2
          have B2:Hid (Below w.heap.size w w2):=B0.out.trans (hb2.mono hsz)
          have hs2:=hb2.size
          have hd0:=B_cell B2.out hbB C0.out
          have hd1:=B_cell B2.out hbB C1.out
          have hd2:=B_cell B2.out hbB C2.out
          have hj0:w2.cell? ⟨w.heap.size,0,none⟩=some (.int .u64 s):=by rw [I2.out.cell];rfl
          have hj1:w2.cell? ⟨w.heap.size,1,none⟩=some (.int .i64 z):=by rw [I2.out.cell];rfl
          clear hb2 hc0 hc1 hc2 hi0 hi1
          by_cases heq:p=s
          · have e1:=heq.symm
            clear heq
            subst e1
            by_cases heq2:q=z
            · have e2:=heq2.symm
              clear heq2
              subst e2
              go_wp2_with fail
              go_quiet (fail)
              have K3:Hid ((w2.drewN nq).ownsRow w.heap.size 125 3 (.slice B xs.length d) xs.length (xs.flatMap encC)):=K2
              have I3:Hid (IsB (w2.drewN nq) w.heap.size 36 #[.int .u64 s,.int .i64 z]):=I2
              have B3:Hid (Below w.heap.size w (w2.drewN nq)):=bdrewN B2.out nq
              have hs3:w2.heap.size<=(w2.drewN nq).heap.size:=Nat.le_refl _
              have hd0:(w2.drewN nq).cell? ⟨b,o+k*3,none⟩=some (.int .u64 s):=hd0
              have hd1:(w2.drewN nq).cell? ⟨b,o+k*3+1,none⟩=some (.int .i64 z):=hd1
              have hd2:(w2.drewN nq).cell? ⟨b,o+k*3+2,none⟩=some (.int .i64 m):=hd2
              have hj0:(w2.drewN nq).cell? ⟨w.heap.size,0,none⟩=some (.int .u64 s):=hj0
              have hj1:(w2.drewN nq).cell? ⟨w.heap.size,1,none⟩=some (.int .i64 z):=hj1
              generalize w2.drewN nq=w5 at K3 I3 B3 hs3 hd0 hd1 hd2 hj0 hj1 |-
              go_wp2_with fail
              have hsum:IntKind.i64.wrap (m+n)=m+n:=IntWalk.i64_in _ (by omega)
              have ne5:some w.heap.size≠(Value.slice B xs.length d).ownBlock:=I3.out.own_ne K3.out (by decide)
              have neb:some b≠(Value.slice B xs.length d).ownBlock:=fun e=>by have:=(K3.out.lt b e.symm).1;omega
              have hbl5:b<w5.heap.size:=by omega
              have hIl5:w.heap.size<w5.heap.size:=I3.out.lt
              have Hne5:=hid ne5
              have Hneb:=hid neb
              clear ne5 neb
              go_region_held3 (fun w'=>w'.cell? ⟨b,o+k*3+2,none⟩=some (.int .i64 m)/\w'.cell? ⟨w.heap.size,0,none⟩=some (.int .u64 s)/\w'.cell? ⟨w.heap.size,1,none⟩=some (.int .i64 z))
                (first
                  | go_keep
                  | (go_split_ands
                     refine ⟨?_,?_,?_⟩
                     · (rw [hgrow7.cell_far _ (by simp;omega) Hneb.out];assumption)
                     · (rw [hgrow7.cell_far _ (by simp;omega) Hne5.out];assumption)
                     · (rw [hgrow7.cell_far _ (by simp;omega) Hne5.out];assumption)))
                ((refine step_append_lies _ (by rfl) _ _ _ (by rfl) w.heap.size 125 i0 _ 3 24 Tryz.underlying49 hi hz0 hz1 hz2 rfl (by omega) (.slice B xs.length d) xs.length (xs.flatMap encC) (by rfl) ((K3.out.alloc _).drew)
                    ⟨w5.heap.size,0,none⟩ 1 1 [.int .u64 s,.int .i64 z,.int .i64 (m+n)] (by rfl) (by rfl) (World.news_of_block (cs:= #[.int .u64 s,.int .i64 z,.int .i64 (m+n)]) (t:=125) (fr:=(0,0)) (heap_alloc_new w5 _)) (by simp [Value.oneCell'])
                    (by omega) (by unfold maxLen;omega) (by omega) (by simp;omega) (w5.heap.size+1) (by simp) ?_;intro g7 c7 w7 hown7 hgrow7 hat7 hlt7))
              clear hsum
              have K7:=hid hown7
              have B7:Hid (Below w.heap.size w w7):=(bdrewN (B3.out.alloc B3.out.size _) 1).grown hgrow7 (by simp;have:=B3.out.size;omega) (fun k hk=>(K3.out.lt k hk).1)
              have I7:Hid (IsB w7 w.heap.size 36 #[.int .u64 s,.int .i64 z]):=((I3.out.alloc _).drewN 1).grown hgrow7 Hne5.out
              clear hown7 hgrow7 hat7
              go_wp2_with fail
              go_roundw
              case rel=>
                refine ⟨k+1,true,xs++[((s,z),m+n)],some ⟨g7,0,none⟩,c7,by omega,by go_num,rfl,by simp,by have:=Hinv.out.same hlt (by rw [HI.out];exact Hlo.out) (by rw [HI.out]);rwa [HI.out] at this,?_,I7.out,B7.out⟩
                simp only [List.length_append,List.length_singleton,List.flatMap_append]
                first | exact K7.out | simpa [Nat.add_assoc] using K7.out
              case measure=>simp [intOf];omega
            · have hbe:(q==z)=false:=by rw [beq_eq_false_iff_ne];exact heq2
              have Hne:Hid ((s,q)≠(s,z)):=fun e=>heq2 (by injection e)
              clear heq2
              go_wp2_with fail
              go_quiet (fail)
              have K3:Hid ((w2.drewN nq).ownsRow w.heap.size 125 3 (.slice B xs.length d) xs.length (xs.flatMap encC)):=K2
              have I3:Hid (IsB (w2.drewN nq) w.heap.size 36 #[.int .u64 s,.int .i64 z]):=I2
              have B3:Hid (Below w.heap.size w (w2.drewN nq)):=bdrewN B2.out nq
              have hs3:w2.heap.size<=(w2.drewN nq).heap.size:=Nat.le_refl _
              have hd0:(w2.drewN nq).cell? ⟨b,o+k*3,none⟩=some (.int .u64 s):=hd0
              have hd1:(w2.drewN nq).cell? ⟨b,o+k*3+1,none⟩=some (.int .i64 q):=hd1
              have hd2:(w2.drewN nq).cell? ⟨b,o+k*3+2,none⟩=some (.int .i64 m):=hd2
              have hj0:(w2.drewN nq).cell? ⟨w.heap.size,0,none⟩=some (.int .u64 s):=hj0
              have hj1:(w2.drewN nq).cell? ⟨w.heap.size,1,none⟩=some (.int .i64 z):=hj1
              generalize w2.drewN nq=w5 at K3 I3 B3 hs3 hd0 hd1 hd2 hj0 hj1 |-
              go_wp2_with (at_builtin;refine halt_ ?_)
              unfold Hid
              refine wpList_append_lies _ rfl _ _ _ rfl w.heap.size 125 i0 _ 3 24 Tryz.underlying49 hi hz0 hz1 hz2 rfl (by decide) _ xs.length _ rfl (K3.out.alloc _) ⟨w5.heap.size,0,none⟩ 1 1 [.int .u64 s,.int .i64 z,.int .i64 n] rfl rfl (mthree_new _ _ _ _ _ _ (by simp)) (encC_one ((s,z),n)) (by omega) (by unfold maxLen;omega) (by omega) (by simp;omega) (w5.heap.size+1) (by simp) ?_
              intro g7 c7 w7 hown7 hgrow7 hat7 hlt7
              have K7:=hid hown7
              have B7:Hid (Below w.heap.size w w7):=(B3.out.alloc B3.out.size _).grown hgrow7 (by simp;have:=B3.out.size;omega) (fun k hk=>(K3.out.lt k hk).1)
              have I7:Hid (IsB w7 w.heap.size 36 #[.int .u64 s,.int .i64 z]):=(I3.out.alloc _).grown hgrow7 (I3.out.own_ne K3.out (by decide))
              clear hown7 hgrow7 hat7
              have hf0:=B_cell B7.out hbB C0.out
              have hf1:=B_cell B7.out hbB C1.out
              have hf2:=B_cell B7.out hbB C2.out
              have hs7:=B7.out.size
              have e7:(xs++[((s,z),n)]).length=xs.length+1:=by simp
              have K8:Hid (w7.ownsRow w.heap.size 125 3 (.slice (some ⟨g7,0,none⟩) (xs.length+1) c7) (xs.length+1) ((xs++[((s,z),n)]).flatMap encC)):=by rw [Hid,List.flatMap_append];exact K7.out
              have B8:=B7
              have I8:=I7
              go_wp2_with (at_builtin;refine halt_ ?_)
              unfold Hid
              refine wpList_append_lies _ rfl _ _ _ rfl w.heap.size 125 i0 _ 3 24 Tryz.underlying49 hi hz0 hz1 hz2 rfl (by decide) _ (xs.length+1) _ rfl (K8.out.alloc _) ⟨w7.heap.size,0,none⟩ 1 1 [.int .u64 s,.int .i64 q,.int .i64 m] rfl rfl (mthree_new _ _ _ _ _ _ (by simp)) (encC_one ((s,q),m)) (by omega) (by unfold maxLen;omega) (by omega) (by simp;omega) (w7.heap.size+1) (by simp) ?_
              intro g9 c9 w9 hown9 hgrow9 hat9 hlt9
              have K9:=hid hown9
              have B9:Hid (Below w.heap.size w w9):=(B8.out.alloc B8.out.size _).grown hgrow9 (by simp;have:=B8.out.size;omega) (fun k hk=>(K8.out.lt k hk).1)
              have I9:Hid (IsB w9 w.heap.size 36 #[.int .u64 s,.int .i64 z]):=(I8.out.alloc _).grown hgrow9 (I8.out.own_ne K8.out (by decide))
              clear hown9 hgrow9 hat9
              go_wp2_with fail
              go_roundw
              case rel=>
                refine ⟨k+1,true,xs++[((s,z),n)]++[((s,q),m)],some ⟨g9,0,none⟩,c9,by omega,by go_num,rfl,by simp,by have:=Hinv.out.new hlt (by rw [HI.out];exact Hlo.out) (by rw [HI.out];exact Hne.out);rwa [HI.out] at this,?_,I9.out,B9.out⟩
                simp only [List.length_append,List.length_singleton,List.flatMap_append,Nat.add_assoc]
                first | exact K9.out | simpa [Nat.add_assoc,encC] using K9.out
              case measure=>simp [intOf];omega
          · have hbe:(p==s)=false:=by rw [beq_eq_false_iff_ne];exact heq
            have Hne:Hid ((p,q)≠(s,z)):=fun e=>heq (by injection e)
            clear heq
            go_wp2_with fail
            go_quiet (fail)
            have K3:Hid ((w2.drewN nq).ownsRow w.heap.size 125 3 (.slice B xs.length d) xs.length (xs.flatMap encC)):=K2
            have I3:Hid (IsB (w2.drewN nq) w.heap.size 36 #[.int .u64 s,.int .i64 z]):=I2
            have B3:Hid (Below w.heap.size w (w2.drewN nq)):=bdrewN B2.out nq
            have hs3:w2.heap.size<=(w2.drewN nq).heap.size:=Nat.le_refl _
            have hd0:(w2.drewN nq).cell? ⟨b,o+k*3,none⟩=some (.int .u64 p):=hd0
            have hd1:(w2.drewN nq).cell? ⟨b,o+k*3+1,none⟩=some (.int .i64 q):=hd1
            have hd2:(w2.drewN nq).cell? ⟨b,o+k*3+2,none⟩=some (.int .i64 m):=hd2
            have hj0:(w2.drewN nq).cell? ⟨w.heap.size,0,none⟩=some (.int .u64 s):=hj0
            have hj1:(w2.drewN nq).cell? ⟨w.heap.size,1,none⟩=some (.int .i64 z):=hj1
            generalize w2.drewN nq=w5 at K3 I3 B3 hs3 hd0 hd1 hd2 hj0 hj1 |-
            go_wp2_with (at_builtin;refine halt_ ?_)
            unfold Hid
            refine wpList_append_lies _ rfl _ _ _ rfl w.heap.size 125 i0 _ 3 24 Tryz.underlying49 hi hz0 hz1 hz2 rfl (by decide) _ xs.length _ rfl (K3.out.alloc _) ⟨w5.heap.size,0,none⟩ 1 1 [.int .u64 s,.int .i64 z,.int .i64 n] rfl rfl (mthree_new _ _ _ _ _ _ (by simp)) (encC_one ((s,z),n)) (by omega) (by unfold maxLen;omega) (by omega) (by simp;omega) (w5.heap.size+1) (by simp) ?_
            intro g7 c7 w7 hown7 hgrow7 hat7 hlt7
            have K7:=hid hown7
            have B7:Hid (Below w.heap.size w w7):=(B3.out.alloc B3.out.size _).grown hgrow7 (by simp;have:=B3.out.size;omega) (fun k hk=>(K3.out.lt k hk).1)
            have I7:Hid (IsB w7 w.heap.size 36 #[.int .u64 s,.int .i64 z]):=(I3.out.alloc _).grown hgrow7 (I3.out.own_ne K3.out (by decide))
            clear hown7 hgrow7 hat7
            have hf0:=B_cell B7.out hbB C0.out
            have hf1:=B_cell B7.out hbB C1.out
            have hf2:=B_cell B7.out hbB C2.out
            have hs7:=B7.out.size
            have e7:(xs++[((s,z),n)]).length=xs.length+1:=by simp
            have K8:Hid (w7.ownsRow w.heap.size 125 3 (.slice (some ⟨g7,0,none⟩) (xs.length+1) c7) (xs.length+1) ((xs++[((s,z),n)]).flatMap encC)):=by rw [Hid,List.flatMap_append];exact K7.out
            have B8:=B7
            have I8:=I7
            go_wp2_with (at_builtin;refine halt_ ?_)
            unfold Hid
            refine wpList_append_lies _ rfl _ _ _ rfl w.heap.size 125 i0 _ 3 24 Tryz.underlying49 hi hz0 hz1 hz2 rfl (by decide) _ (xs.length+1) _ rfl (K8.out.alloc _) ⟨w7.heap.size,0,none⟩ 1 1 [.int .u64 p,.int .i64 q,.int .i64 m] rfl rfl (mthree_new _ _ _ _ _ _ (by simp)) (encC_one ((p,q),m)) (by omega) (by unfold maxLen;omega) (by omega) (by simp;omega) (w7.heap.size+1) (by simp) ?_
            intro g9 c9 w9 hown9 hgrow9 hat9 hlt9
            have K9:=hid hown9
            have B9:Hid (Below w.heap.size w w9):=(B8.out.alloc B8.out.size _).grown hgrow9 (by simp;have:=B8.out.size;omega) (fun k hk=>(K8.out.lt k hk).1)
            have I9:Hid (IsB w9 w.heap.size 36 #[.int .u64 s,.int .i64 z]):=(I8.out.alloc _).grown hgrow9 (I8.out.own_ne K8.out (by decide))
            clear hown9 hgrow9 hat9
            go_wp2_with fail
            go_roundw
            case rel=>
              refine ⟨k+1,true,xs++[((s,z),n)]++[((p,q),m)],some ⟨g9,0,none⟩,c9,by omega,by go_num,rfl,by simp,by have:=Hinv.out.new hlt (by rw [HI.out];exact Hlo.out) (by rw [HI.out];exact Hne.out);rwa [HI.out] at this,?_,I9.out,B9.out⟩
              simp only [List.length_append,List.length_singleton,List.flatMap_append,Nat.add_assoc]
              first | exact K9.out | simpa [Nat.add_assoc,encC] using K9.out
            case measure=>simp [intOf];omega
    · obtain rfl:k=t.length:=by omega
      cases put with
      | true=>
        have HX:=hid (Hinv.out.stop)
        go_wp2_with fail
        go_ret
        exact ⟨B,d,by rw [<- HX.out];rfl,by rw [<- HX.out];exact (Rd.of_own encC_len (by omega) K0.out hx).2,by rw [<- HX.out];exact own_cap K0.out,fun ad had=>by subst had;exact K0.out.lt ad.block rfl,B0.out⟩
      | false=>
        have HX:=hid (Hinv.out.last)
        have hi0:wr.cell? ⟨w.heap.size,0,none⟩=some (.int .u64 s):=by rw [I0.out.cell];rfl
        have hi1:wr.cell? ⟨w.heap.size,1,none⟩=some (.int .i64 z):=by rw [I0.out.cell];rfl
        go_wp2_with (at_builtin;refine halt_ ?_)
        unfold Hid
        refine wpList_append_lies _ rfl _ _ _ rfl w.heap.size 125 i0 _ 3 24 Tryz.underlying49 hi hz0 hz1 hz2 rfl (by decide) _ xs.length _ rfl (K0.out.alloc _) ⟨wr.heap.size,0,none⟩ 1 1 [.int .u64 s,.int .i64 z,.int .i64 n] rfl rfl (mthree_new _ _ _ _ _ _ (by simp)) (encC_one ((s,z),n)) (by omega) (by unfold maxLen;omega) (by omega) (by simp;omega) (wr.heap.size+1) (by simp) ?_
        intro g1 c1 w1 hown1 hgrow1 hat1 hlt1
        have K1:=hid hown1
        have B1:Hid (Below w.heap.size w w1):=(B0.out.alloc B0.out.size _).grown hgrow1 (by simp;have:=B0.out.size;omega) (fun k hk=>(K0.out.lt k hk).1)
        have I1:Hid (IsB w1 w.heap.size 36 #[.int .u64 s,.int .i64 z]):=(I0.out.alloc _).grown hgrow1 (I0.out.own_ne K0.out (by decide))
        clear hown1 hgrow1 hat1
        go_wp2_with fail
        go_ret
        have e9:(putR t (s,z) n).length=xs.length+1:=by rw [<- HX.out];simp
        have K1':w1.ownsRow w.heap.size 125 3 (.slice (some ⟨g1,0,none⟩) (xs.length+1) c1) (xs.length+1) ((putR t (s,z) n).flatMap encC):=by
          rw [<- HX.out,List.flatMap_append]
          exact K1.out
        exact ⟨some ⟨g1,0,none⟩,c1,by rw [e9];rfl,(Rd.of_own encC_len (by omega) K1' hx).2,by rw [e9];exact own_cap K1',fun ad had=>by cases had;exact K1'.lt g1 rfl,B1.out⟩
def TwoC (x:Nat) (p:List CT×Int) (w:World) (e:Ending) (w':World):Prop:=
  ∃ (A:Option Addr) (c:Nat),e= .returned (.tuple #[.slice A p.1.length c,.int .i64 p.2])/\RdC w' x A p.1/\p.1.length<=c/\Below w.heap.size w w'
def OneC (x:Nat) (t:List CT) (w:World) (e:Ending) (w':World):Prop:=
  ∃ (A:Option Addr) (c:Nat),e= .returned (.slice A t.length c)/\RdC w' x A t/\t.length<=c/\Below w.heap.size w w'
theorem NewC.one {x:Nat} {t:List CT} {w:World} {e:Ending} {w':World} (h:NewC x t w e w'):OneC x t w e w':=by
  obtain ⟨A,c,h1,h2,h3,h4,h5⟩:=h
  exact ⟨A,c,h1,h2,h3,h5⟩
def allR (t:List CT) (l:List ID):List CT:=l.foldl (fun t i=>putR t i 1) t
theorem allR_snoc (t:List CT) (l:List ID) (i:ID):allR t (l++[i])=putR (allR t l) i 1:=by simp [allR]
theorem putR_len (t:List CT) (i:ID) (n:Int):(putR t i n).length<=t.length+1:=by
  induction t with
  | nil=>simp [putR]
  | cons c t ih=>
    rw [putR]
    split
    · simp;omega
    · split<;>simp
theorem putR_bd {t:List CT} {i:ID} {n lo hi m:Int} (hm:0<=m) (hlo:lo<=0) (hhi:0<=hi) (hn: -m<=n/\n<=m) (h:∀ c∈t,lo<=c.2/\c.2<=hi):∀ c∈putR t i n,lo-m<=c.2/\c.2<=hi+m:=by
  induction t with
  | nil=>intro c hc;simp [putR] at hc;subst hc;simp only;omega
  | cons d t ih=>
    intro c hc
    have hd:=h d (by simp)
    rw [putR] at hc
    split at hc
    · rcases List.mem_cons.1 hc with rfl | hc
      · omega
      · exact ih (fun c hc=>h c (by simp [hc])) c hc
    · split at hc
      · rcases List.mem_cons.1 hc with rfl | hc
        · simp only;omega
        · have:=h c (by simp [hc]);omega
      · rcases List.mem_cons.1 hc with rfl | hc
        · simp only;omega
        · have:=h c hc;omega
theorem allR_len (t:List CT) (l:List ID):(allR t l).length<=t.length+l.length:=by
  induction l generalizing t with
  | nil=>simp [allR]
  | cons i l ih=>
    have h1:=ih (putR t i 1)
    have h2:=putR_len t i 1
    have e:allR t (i::l)=allR (putR t i 1) l:=rfl
    rw [e,List.length_cons]
    omega
theorem allR_bd {t:List CT} {lo hi:Int} (hlo:lo<=0) (hhi:0<=hi) (h:∀ c∈t,lo<=c.2/\c.2<=hi) (l:List ID):∀ c∈allR t l,lo-l.length<=c.2/\c.2<=hi+l.length:=by
  induction l generalizing t lo hi with
  | nil=>intro c hc;have:=h c hc;simp;omega
  | cons i l ih=>
    intro c hc
    have:=ih (t:=putR t i 1) (lo:=lo-1) (hi:=hi+1) (by omega) (by omega) (putR_bd (by omega) hlo hhi (by omega) h) c hc
    rw [List.length_cons]
    push_cast
    omega
end Go.Proofs.YtmiknfneeipkeaaGreat
namespace Go.Proofs.YtmiknfneeipkeaaGreat
open Go.RowKit
attribute [local go_sem] wext_cell
theorem gb {p q:Bool} {w W:World} (h:p=q) (hb:Below w.heap.size w W):Gives (.bool p) w (.returned (.bool q)) W:=⟨by rw [h],hb⟩
theorem eq_of_take {α:Type} {a b:List α} (hl:a.length=b.length) (h:a.take a.length=b.take a.length):a=b:=by
  rw [List.take_length,hl,List.take_length] at h
  exact h
theorem ne_of_getD {α:Type} {a b:List α} (d:α) (k:Nat) (h:a.getD k d≠b.getD k d):a≠b:=fun e=>h (by rw [e])
theorem take_both {α:Type} {a b:List α} {d:α} {k:Nat} (ha:k<a.length) (hb:k<b.length) (h:a.take k=b.take k) (he:a.getD k d=b.getD k d):a.take (k+1)=b.take (k+1):=by
  rw [take_snoc _ d _ ha,take_snoc _ d _ hb,h,he]
set_option maxHeartbeats 2000000 in
theorem SameIDs_any (x y:Nat) (a b:List ID) (A B:Option Addr) (c d:Nat) (w:World) (ha:RdID w x A a) (hb:RdID w y B b) (hla:a.length<=9223372036854775807) (hlb:b.length<=9223372036854775807):
    Calls Tryz.prog 18 #[.slice A a.length c,.slice B b.length d] w (Gives (.bool (decide (a=b))) w):=by
  have Ha:=hid ha
  have Hb:=hid hb
  clear ha hb
  by_cases hlen:a.length=b.length
  · have hbe:(a.length !=b.length)=false:=by simp [hlen]
    have hbi:(((a.length:Nat):Int) !=((b.length:Nat):Int))=false:=by simp [hlen]
    have Hlen:=hid hlen
    clear hlen
    go_enter Tryz.func18,Tryz.ntmps18
    go_wp2_with fail
    go_loopw [5] (fun v wr=>∃ k:Nat,k<=a.length/\v= .int .i64 k/\Hid (a.take k=b.take k)/\Below w.heap.size w wr) (fun v _=>a.length-(intOf v).toNat)
    case atStart=>exact ⟨0,Nat.zero_le _,rfl,rfl,Below.refl _ _⟩
    case round=>
      obtain ⟨k,hk,rfl,Hk,hbw⟩:=hrel
      have Hbw:=hid hbw
      clear hbw
      by_cases hlt:k<a.length
      · have hlt':k<b.length:=by have:=Hlen.out;omega
        obtain ⟨b1,o1,rfl,hb1,_,hc1⟩:=Ha.out (by omega)
        obtain ⟨b2,o2,rfl,hb2,_,hc2⟩:=Hb.out (by omega)
        obtain ⟨s0,s1,HI⟩:∃ s0 s1,Hid (a.getD k (0,0)=(s0,s1)):=⟨_,_,rfl⟩
        obtain ⟨r0,r1,HJ⟩:∃ r0 r1,Hid (b.getD k (0,0)=(r0,r1)):=⟨_,_,rfl⟩
        have p0:wr.cell? ⟨b1,o1+k*2,none⟩=some (.int .u64 s0):=B_cell Hbw.out hb1 (hc1 k hlt 0 _ (by rw [HI.out];rfl))
        have q0:wr.cell? ⟨b2,o2+k*2,none⟩=some (.int .u64 r0):=B_cell Hbw.out hb2 (hc2 k hlt' 0 _ (by rw [HJ.out];rfl))
        have p1:wr.cell? ⟨b1,o1+k*2+1,none⟩=some (.int .i64 s1):=B_cell Hbw.out hb1 (hc1 k hlt 1 _ (by rw [HI.out];rfl))
        have q1:wr.cell? ⟨b2,o2+k*2+1,none⟩=some (.int .i64 r1):=B_cell Hbw.out hb2 (hc2 k hlt' 1 _ (by rw [HJ.out];rfl))
        clear hc1 hc2
        by_cases e0:s0=r0
        · obtain rfl:=e0
          by_cases e1:s1=r1
          · obtain rfl:=e1
            go_wp2_with fail
            go_quiet (fail)
            go_wp2_with fail
            go_roundw
            case rel=>exact ⟨k+1,by omega,by go_num,take_both (d:=(0,0)) hlt hlt' Hk.out (by rw [HI.out,HJ.out]),bdrewN Hbw.out _⟩
            case measure=>simp [intOf];omega
          · have hne:(s1==r1)=false:=by rw [beq_eq_false_iff_ne];exact e1
            have HF:Hid (decide (a=b)=false):=by
              unfold Hid
              rw [decide_eq_false_iff_not]
              exact ne_of_getD (0,0) k (fun h=>e1 (by rw [HI.out,HJ.out] at h;simp at h;omega))
            clear e1
            go_wp2_with fail
            go_quiet (fail)
            go_wp2_with fail
            go_ret
            exact gb HF.out (bdrewN Hbw.out _)
        · have hne:(s0==r0)=false:=by rw [beq_eq_false_iff_ne];exact e0
          have HF:Hid (decide (a=b)=false):=by
            unfold Hid
            rw [decide_eq_false_iff_not]
            exact ne_of_getD (0,0) k (fun h=>e0 (by rw [HI.out,HJ.out] at h;simp at h;omega))
          clear e0
          go_wp2_with fail
          go_quiet (fail)
          go_wp2_with fail
          go_ret
          exact gb HF.out (bdrewN Hbw.out _)
      · obtain rfl:k=a.length:=by omega
        have HT:Hid (decide (a=b)=true):=by
          unfold Hid
          rw [decide_eq_true_eq]
          exact eq_of_take Hlen.out Hk.out
        go_wp2_with fail
        go_ret
        exact gb HT.out Hbw.out
  · have hbe:(a.length !=b.length)=true:=by rw [bne_iff_ne];exact hlen
    have hbi:(((a.length:Nat):Int) !=((b.length:Nat):Int))=true:=by rw [bne_iff_ne];omega
    have HF:Hid (decide (a=b)=false):=by
      unfold Hid
      rw [decide_eq_false_iff_not]
      intro e
      exact hlen (by rw [e])
    clear hlen
    go_enter Tryz.func18,Tryz.ntmps18
    go_wp2_with fail
    go_ret
    exact gb HF.out (Below.refl _ _)
set_option maxHeartbeats 2000000 in
theorem rHas_any (x:Nat) (l:List ID) (A:Option Addr) (c:Nat) (s z:Int) (w:World) (hl:RdID w x A l) (hn:l.length<=9223372036854775807):
    Calls Tryz.prog 34 #[.slice A l.length c,.agg #[.int .u64 s,.int .i64 z]] w (Gives (.bool (decide ((s,z)∈l))) w):=by
  have Hl:=hid hl
  clear hl
  go_enter Tryz.func34,Tryz.ntmps34
  go_wp2_with fail
  go_loopw [5] (fun v wr=>∃ k:Nat,k<=l.length/\v= .int .i64 k/\Hid (¬ (s,z)∈l.take k)/\IsB wr w.heap.size 36 #[.int .u64 s,.int .i64 z]/\Below w.heap.size w wr) (fun v _=>l.length-(intOf v).toNat)
  case atStart=>exact ⟨0,Nat.zero_le _,rfl,by simp [Hid],IsB.new _ _ _,bel1 _ _⟩
  case round=>
    obtain ⟨k,hk,rfl,Hk,hI,hbw⟩:=hrel
    have hi0:wr.cell? ⟨w.heap.size,0,none⟩=some (.int .u64 s):=by rw [hI.cell];rfl
    have hi1:wr.cell? ⟨w.heap.size,1,none⟩=some (.int .i64 z):=by rw [hI.cell];rfl
    have hIl:=hI.lt
    have HI:=hid hI
    have Hbw:=hid hbw
    clear hbw hI
    by_cases hlt:k<l.length
    · obtain ⟨b1,o1,rfl,hb1,_,hc1⟩:=Hl.out (by omega)
      obtain ⟨p,q,HJ⟩:∃ p q,Hid (l.getD k (0,0)=(p,q)):=⟨_,_,rfl⟩
      have p0:wr.cell? ⟨b1,o1+k*2,none⟩=some (.int .u64 p):=B_cell Hbw.out hb1 (hc1 k hlt 0 _ (by rw [HJ.out];rfl))
      have p1:wr.cell? ⟨b1,o1+k*2+1,none⟩=some (.int .i64 q):=B_cell Hbw.out hb1 (hc1 k hlt 1 _ (by rw [HJ.out];rfl))
      clear hc1
      have next:(p,q)≠(s,z)->¬ (s,z)∈l.take (k+1):=by
        intro hne hm
        rw [take_snoc _ (0,0) _ hlt,HJ.out] at hm
        rcases List.mem_append.1 hm with h | h
        · exact Hk.out h
        · rw [List.mem_singleton] at h;exact hne h.symm
      have Hnext:=hid next
      clear next
      by_cases e0:p=s
      · obtain rfl:=e0
        by_cases e1:q=z
        · obtain rfl:=e1
          have HT:Hid (decide ((p,q)∈l)=true):=by
            unfold Hid
            rw [decide_eq_true_eq, <- HJ.out]
            exact getD_mem _ _ _ hlt
          go_wp2_with fail
          go_quiet (fail)
          go_wp2_with fail
          go_ret
          exact gb HT.out (bdrewN Hbw.out _)
        · have hne:(q==z)=false:=by rw [beq_eq_false_iff_ne];exact e1
          have Hn:Hid (¬ (p,z)∈l.take (k+1)):=Hnext.out (fun h=>e1 (by injection h))
          clear e1
          go_wp2_with fail
          go_quiet (fail)
          go_wp2_with fail
          go_roundw
          case rel=>exact ⟨k+1,by omega,by go_num,Hn,HI.out.drewN _,bdrewN Hbw.out _⟩
          case measure=>simp [intOf];omega
      · have hne:(p==s)=false:=by rw [beq_eq_false_iff_ne];exact e0
        have Hn:Hid (¬ (s,z)∈l.take (k+1)):=Hnext.out (fun h=>e0 (by injection h))
        clear e0
        go_wp2_with fail
        go_quiet (fail)
        go_wp2_with fail
        go_roundw
        case rel=>exact ⟨k+1,by omega,by go_num,Hn,HI.out.drewN _,bdrewN Hbw.out _⟩
        case measure=>simp [intOf];omega
    · obtain rfl:k=l.length:=by omega
      have HF:Hid (decide ((s,z)∈l)=false):=by
        unfold Hid
        rw [decide_eq_false_iff_not]
        have:=Hk.out
        rwa [List.take_length] at this
      go_wp2_with fail
      go_ret
      exact gb HF.out Hbw.out
end Go.Proofs.YtmiknfneeipkeaaGreat
